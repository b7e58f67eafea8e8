/-
  The walk through TypesCalls.
-/
import Derived.Test.YtpiamiaigjlafaaTyCallC
namespace Go.Proofs.Ytpiamiaigjlafaa
open Go.RowKit

/-- the type that a byte asks for -/
def tyAt (s : List UInt8) (j : Nat) : Int := 1 + ((s.getD j 0).toNat : Int) % 3
def csP (s : List UInt8) (j : Nat) : List Value := [.string (nmP j), .int .i64 (tyAt s j)]
def csK (s : List UInt8) (j : Nat) : List Value := [.int .i64 (tyAt s j), .int .i64 0, .string ⟨#[]⟩, .slice none 0 0, .int .i64 0]
theorem conv_name (w : World) (i : Nat) (hi : i < 15) : (convert 22 9 (.slice (some ⟨w.heap.size, 0, none⟩) 1 1)).run Try.prog (w.alloc (.cells #[.int .u8 (97 + (i : Int))] 5)) = .ok (.string (nmP i)) (w.alloc (.cells #[.int .u8 (97 + (i : Int))] 5)) := by
  have hz : (97 + (i : Int)) = ((UInt8.ofNat (97 + i)).toNat : Int) := by
    simp
    omega
  rw [hz]
  exact conv_src (s := [UInt8.ofNat (97 + i)]) (x := 0) (y := 1) (src_new w [UInt8.ofNat (97 + i)] 5 _ (0, 0) rfl) (Nat.le_refl _) 1 1 rfl
theorem lit_news {W : World} {b : Nat} {l : List Value} {t : TypeId} {fz : Nat × Nat} (h : W.heap[b]? = some (.cells l.toArray t fz)) : ∀ j u, l[j]? = some u → W.cell? ((⟨b, 0, none⟩ : Addr).add j) = some u := by
  intro j u hj
  rw [Go.WideShapes.add_plain, Nat.zero_add]
  exact cell_of h (by simpa using hj)
theorem own_cross {A B : World} {base e1 e2 sz1 sz2 n1 n2 : Nat} {v1 v2 : Value} {xs1 xs2 : List Value} (h1 : A.ownsRow base e1 sz1 v1 n1 xs1) (h2 : A.ownsRow base e2 sz2 v2 n2 xs2) (he : e1 ≠ e2) (hg : A.grownBy B v2.ownBlock) : B.ownsRow base e1 sz1 v1 n1 xs1 := by
  refine ⟨h1.1, ?_⟩
  rcases h1.2 with q | ⟨g, cap, cur, q1, q2, q3, q4⟩
  · exact .inl q
  · refine .inr ⟨g, cap, cur, q1, q2, (hg.block g (lt_block q3) (fun e => ?_)).trans q3, q4⟩
    rcases h2.2 with ⟨rfl, _⟩ | ⟨g', cap', cur', rfl, p2, p3, p4⟩
    · cases e
    · injection e with e
      subst e
      rw [q3] at p3
      injection p3 with p3
      injection p3 with _ p3
      exact he p3
theorem grown_box {A B : World} {r : Option Nat} {b : Nat} {o : Obj} (h : A.heap[b]? = some o) (hg : A.grownBy B r) (hr : ∀ q, r = some q → q ≠ b) : B.heap[b]? = some o := (hg.block b (lt_block h) (fun e => hr b e.symm rfl)).trans h
theorem On.grown {k : Nat} {a b c : World} {r : Option Nat} (h : On k a b) (hg : b.grownBy c r) (hr : ∀ q, r = some q → a.heap.size ≤ q) : On k a c :=
  ⟨hg.os.trans h.os, hg.tape.trans h.tape, hg.output.trans h.output, Nat.le_trans h.size hg.size, fun i hi hne => (hg.block i (Nat.lt_of_lt_of_le hi h.size) (fun e => by have := hr i e.symm; omega)).trans (h.block i hi hne)⟩
/-- the types that the bytes ask for -/
def tysOf (s : List UInt8) : List Int := (List.range s.length).map (tyAt s)
theorem tys_len (s : List UInt8) : (tysOf s).length = s.length := by simp [tysOf]
theorem tys_get (s : List UInt8) (i : Nat) (hi : i < s.length) : (tysOf s)[i]? = some (tyAt s i) := by simp [tysOf, hi]
theorem ty_ok (s : List UInt8) (j : Nat) : okT (tyAt s j) := by
  unfold okT tyAt
  omega
theorem tys_ok (s : List UInt8) : ∀ t, t ∈ tysOf s → okT t := fun t ht => by
  obtain ⟨j, _, rfl⟩ := List.mem_map.1 ht
  exact ty_ok s j
theorem leaf_rep (W : World) (t : Int) : RepEx Any W [.int .i64 t, .int .i64 0, .string ⟨#[]⟩, .slice none 0 0, .int .i64 0] (leafX t) := RepEx.of (RepExs.nil Any W)
theorem leaves_rep {W : World} {v : Value} {us : List Int} {n : Nat} {cs : Nat → List Value} {S : Nat → Prop} (h : RowOf S W v 5 n cs) (hn : n = us.length) (hc : ∀ i, i < us.length → cs i = [.int .i64 (us.getD i 0), .int .i64 0, .string ⟨#[]⟩, .slice none 0 0, .int .i64 0]) : RepExs Any W v (us.map leafX) := by
  subst hn
  refine ⟨cs, by rw [List.length_map]; exact h.mono (fun _ _ => trivial), fun i hi => ?_⟩
  rw [List.length_map] at hi
  rw [hc i hi]
  have : (us.map leafX).getD i default = leafX (us.getD i 0) := by
    rw [List.getD_eq_getElem?_getD, List.getElem?_map, List.getD_eq_getElem?_getD, List.getElem?_eq_getElem hi]
    rfl
  rw [this]
  exact leaf_rep W _
theorem tys_getD (s : List UInt8) (i : Nat) (hi : i < s.length) : (tysOf s).getD i 0 = tyAt s i := by rw [List.getD_eq_getElem?_getD, tys_get s i hi]; rfl
theorem kids_rep {W : World} {s : List UInt8} {v : Value} {S : Nat → Prop} (h : RowOf S W v 5 s.length (csK s)) : RepExs Any W v ((tysOf s).map leafX) :=
  leaves_rep h (tys_len s).symm (fun i hi => by rw [tys_len] at hi; rw [tys_getD s i hi]; rfl)
theorem parsX_get : ∀ (ts : List Int) (j i : Nat), i < ts.length → (parsX j ts).getD i default = (nmP (j + i), ts.getD i 0)
  | [], _, _, h => absurd h (Nat.not_lt_zero _)
  | t :: ts, j, 0, _ => rfl
  | t :: ts, j, i + 1, h => by
    have := parsX_get ts (j + 1) i (by simpa using h)
    rw [show j + 1 + i = j + (i + 1) by omega] at this
    exact this
theorem pars_rep {W : World} {base e cap : Nat} {a : Option Addr} {s : List UInt8} (h : W.ownsRow base e 2 (.slice a s.length cap) s.length (flat (csP s) s.length)) : RepPas Any W (.slice a s.length cap) (parsX 0 (tysOf s)) := by
  obtain ⟨s0, c0, e, hle, hm, hn, hc⟩ := own_form h
  injection e with e1 e2 e3
  subst e1 e3
  refine ⟨csP s, ?_, fun i hi => ?_⟩
  · rw [parsX_len, tys_len]
    refine ⟨_, cap, rfl, hle, hm, hn, fun h0 => ?_, fun _ _ => rfl⟩
    obtain ⟨g', e, hg, hlt, hcell⟩ := hc h0
    refine ⟨g', 0, e, trivial, hlt, fun i hi j hj => ?_⟩
    have hget := flat_get (cs := csP s) (fun _ _ => rfl) hi hj
    rw [Nat.zero_add, hcell (i * 2 + j) ((csP s i)[j]'hj) (by rw [hget]; exact List.getElem?_eq_getElem _), List.getElem?_eq_getElem hj]
  · rw [parsX_len, tys_len] at hi
    have := parsX_get (tysOf s) 0 i (by rw [tys_len]; exact hi)
    unfold RepPa
    rw [this, tys_getD s i hi, Nat.zero_add]
    rfl
theorem row_cell {S : Nat → Prop} {W : World} {g n cap : Nat} {cs : Nat → List Value} (h : RowOf S W (.slice (some ⟨g, 0, none⟩) n cap) 5 n cs) {i j : Nat} (hi : i < n) (hj : j < 5) : W.cell? ⟨g, i * 5 + j, none⟩ = (cs i)[j]? := by
  obtain ⟨s0, c0, e, _, _, _, h5, _⟩ := h
  injection e with e1 e2 e3
  subst e1
  obtain ⟨b, off, e, _, _, hc⟩ := h5 (by omega)
  injection e with e
  injection e with e4 e5
  subst e4 e5
  have := hc i hi j hj
  rw [Nat.zero_add] at this
  exact this
theorem row_put5 {W : World} {g n cap k : Nat} {s : List UInt8} (h : RowOf (fun b => b = g) W (.slice (some ⟨g, 0, none⟩) n cap) 5 n (csK s)) (hk : k < n) (a b c d e : Value) : RowOf (fun b => b = g) (((((W.setCell ⟨g, k * 5, none⟩ a).setCell ⟨g, k * 5 + 1, none⟩ b).setCell ⟨g, k * 5 + 2, none⟩ c).setCell ⟨g, k * 5 + 3, none⟩ d).setCell ⟨g, k * 5 + 4, none⟩ e) (.slice (some ⟨g, 0, none⟩) n cap) 5 n (fun i => if i = k then [a, b, c, d, e] else csK s i) := by
  have q := row_set (row_set (row_set (row_set (row_set h hk (j0 := 0) (by decide) a) hk (j0 := 1) (by decide) b) hk (j0 := 2) (by decide) c) hk (j0 := 3) (by decide) d) hk (j0 := 4) (by decide) e
  simp only [Nat.zero_add, Nat.add_zero] at q
  refine cast (congrArg (fun f => RowOf (fun b => b = g) _ (.slice (some ⟨g, 0, none⟩) n cap) 5 n f) ?_) q
  funext i
  by_cases hi : i = k
  · simp [hi, csK]
  · simp [hi]
theorem other_rep {S : Nat → Prop} {W : World} {g cap k : Nat} {s : List UInt8} {t : Int} (h : RowOf S W (.slice (some ⟨g, 0, none⟩) s.length cap) 5 s.length (fun i => if i = k then [.int .i64 t, .int .i64 0, .string ⟨#[]⟩, .slice none 0 0, .int .i64 0] else csK s i)) (hk : k < s.length) : RepExs Any W (.slice (some ⟨g, 0, none⟩) s.length cap) (((tysOf s).set k t).map leafX) := by
  refine leaves_rep h (by rw [List.length_set, tys_len]) (fun i hi => ?_)
  rw [List.length_set, tys_len] at hi
  by_cases hik : i = k
  · subst hik
    rw [if_pos rfl, List.getD_eq_getElem?_getD, List.getElem?_set_self (by rw [tys_len]; exact hk)]
    rfl
  · rw [if_neg hik, List.getD_eq_getElem?_getD, List.getElem?_set_ne (fun e => hik e.symm), tys_get s i hi]
    rfl
theorem more_rep {W : World} {base e g cap : Nat} {s : List UInt8} (h : W.ownsRow base e 5 (.slice (some ⟨g, 0, none⟩) (s.length + 1) cap) (s.length + 1) (flat (csK s) s.length ++ [.int .i64 1, .int .i64 0, .string ⟨#[]⟩, .slice none 0 0, .int .i64 0])) : RepExs Any W (.slice (some ⟨g, 0, none⟩) (s.length + 1) cap) ((tysOf s ++ [1]).map leafX) := by
  rw [← flat_push] at h
  refine leaves_rep (row_own h (fun i hi => by split <;> rfl)) (by rw [List.length_append, tys_len]; rfl) (fun i hi => ?_)
  rw [List.length_append, tys_len] at hi
  by_cases hs : i < s.length
  · rw [if_pos hs, List.getD_eq_getElem?_getD, List.getElem?_append_left (by rw [tys_len]; exact hs), tys_get s i hs]
    rfl
  · have hi1 : i = s.length := by simp at hi; omega
    subst hi1
    rw [if_neg hs, List.getD_eq_getElem?_getD, List.getElem?_append_right (by rw [tys_len]; exact Nat.le_refl _), tys_len, Nat.sub_self]
    rfl
theorem tail_rep {S : Nat → Prop} {W : World} {g cap : Nat} {s : List UInt8} (h : RowOf S W (.slice (some ⟨g, 0, none⟩) s.length cap) 5 s.length (csK s)) (h0 : 0 < s.length) : RepExs Any W (.slice (some ⟨g, 5, none⟩) (s.length - 1) (cap - 1)) ((tysOf s).tail.map leafX) := by
  obtain ⟨s0, c0, e, hle, hm, hn, h5, h6⟩ := h
  injection e with e1 e2 e3
  subst e1 e3
  refine leaves_rep (S := S) (cs := fun i => csK s (i + 1)) ⟨_, _, rfl, by omega, by omega, fun e => (by cases e), fun h1 => ?_, fun i hi => rfl⟩ (by rw [List.length_tail, tys_len]) (fun i hi => ?_)
  · obtain ⟨b, off, e, hS, hl, hc⟩ := h5 h0
    injection e with e
    injection e with e4 e5
    subst e4 e5
    refine ⟨g, 5, rfl, hS, hl, fun i hi j hj => ?_⟩
    have := hc (i + 1) (by omega) j hj
    rw [Nat.zero_add, Nat.add_mul, Nat.one_mul, Nat.add_comm (i * 5) 5] at this
    exact this
  · rw [List.length_tail, tys_len] at hi
    have : (tysOf s).tail.getD i 0 = (tysOf s).getD (i + 1) 0 := by
      rw [List.getD_eq_getElem?_getD, List.getD_eq_getElem?_getD, List.getElem?_tail]
    rw [this, tys_getD s (i + 1) (by omega)]
    rfl
theorem tail_rep0 {S : Nat → Prop} {W : World} {g cap : Nat} {s : List UInt8} (h : RowOf S W (.slice (some ⟨g, 0, none⟩) s.length cap) 5 s.length (csK s)) (h0 : 0 < s.length) (hc : cap - 1 = 0) : RepExs Any W (.slice (some ⟨g, 0, none⟩) (s.length - 1) 0) ((tysOf s).tail.map leafX) := by
  obtain ⟨s0, c0, e, hle, hm, hn, h5, h6⟩ := h
  injection e with e1 e2 e3
  subst e1 e3
  have h1 : s.length - 1 = 0 := by omega
  rw [h1]
  refine leaves_rep (S := S) (cs := csK s) ⟨_, _, rfl, Nat.le_refl _, Nat.zero_le _, fun e => (by cases e), fun h1 => absurd h1 (by omega), fun i hi => absurd hi (by omega)⟩ (by rw [List.length_tail, tys_len, h1]) (fun i hi => ?_)
  rw [List.length_tail, tys_len] at hi
  omega
theorem set_ok {l : List Int} {k : Nat} {t : Int} (h : ∀ t, t ∈ l → okT t) (ht : okT t) : ∀ x, x ∈ l.set k t → okT x := fun x hx => by
  rcases List.mem_or_eq_of_mem_set hx with hx | rfl
  · exact h x hx
  · exact ht
theorem calls_one {f : FuncId} {args : Array Value} {W : World} {ts us : List Int} (hts : ts.length ≤ 15) (h : Calls Try.prog f args W fun e w' => e = .returned (.int .i64 (checkC [fnG (us.map leafX), fnF (parsX 0 ts)]).1) ∧ Below W.heap.size W w') (h1 : ∀ t, t ∈ ts → okT t) (h2 : ∀ t, t ∈ us → okT t) :
    Calls Try.prog f args W fun e w' => e = .returned (.int .i64 (if us = ts then 0 else 51)) ∧ Below W.heap.size W w' := by
  rw [call_law us hts h1 h2] at h
  exact h
theorem kids_one (s : List UInt8) (n : Nat) : ∀ u, u ∈ flat (csK s) n → u.oneCell' = true := by
  intro u hu
  unfold flat at hu
  obtain ⟨i, hi, hu⟩ := List.mem_flatMap.1 hu
  simp [csK] at hu
  rcases hu with rfl | rfl | rfl | rfl | rfl <;> rfl
set_option maxRecDepth 100000 in
set_option maxHeartbeats 8000000 in
theorem calls_any (a0 : Option Addr) (capA : Nat) (s : List UInt8) (x : Nat) (w : World) (hx : x ≤ 255) (hs : SrcAt w a0 s) (hsl : s.length ≤ 1152921504606846976) :
    Calls Try.prog 7 #[.slice a0 s.length capA, .int .u8 (x : Int)] w fun e w' => e = .returned (.bool true) ∧ Below w.heap.size w w' := by
  have HSRC := Lib.hid hs
  go_enter Try.func7, Try.ntmps7
  go_wp2_with fail
  refine (head_any _).mono ?_
  rintro e w1 ⟨rfl, hb1⟩
  have HB1 := Lib.hid hb1
  clear hb1
  have hlen : (s.length : Int) ≤ 1152921504606846976 := by omega
  by_cases h0 : s.length = 0
  · have g0 : (s.length : Int) = 0 := by omega
    go_wp2_with fail
    exact bodyPost_ret (v := .bool true) (by simp [results, Try.results7, go_sem]) rfl ⟨rfl, HB1.out⟩
  by_cases h15 : 15 < s.length
  · have g0 : ¬ (s.length : Int) = 0 := by omega
    have g1 : (15 : Int) < (s.length : Int) := by omega
    go_wp2_with fail
    exact bodyPost_ret (v := .bool true) (by simp [results, Try.results7, go_sem]) rfl ⟨rfl, HB1.out⟩
  have g0 : ((s.length : Int) == 0) = false := beq_false_of_ne (by omega)
  have g1 : decide ((15 : Int) < (s.length : Int)) = false := decide_eq_false (by omega)
  go_upto_region 5 with fail
  have HB2 : Hid (Below w.heap.size w (w1.alloc (.cells #[.string ⟨#[102]⟩, .slice none 0 0, .int .i64 0, .slice none 0 0, .int .i64 0] 34))) := Lib.hid (HB1.out.trans ((up_alloc (Below.refl _ _) _).mono HB1.out.size))
  have HFB : Hid ((w1.alloc (.cells #[.string ⟨#[102]⟩, .slice none 0 0, .int .i64 0, .slice none 0 0, .int .i64 0] 34)).heap[w1.heap.size]? = some (.cells #[.string ⟨#[102]⟩, .slice none 0 0, .int .i64 0, .slice none 0 0, .int .i64 0] 34 (0, 0))) := Lib.hid (new_heap _ _ _ rfl)
  have HBF : Hid (w.heap.size ≤ w1.heap.size) := Lib.hid HB1.out.size
  have HSB : Hid (∀ b, b < w.heap.size → b ≠ w1.heap.size) := Lib.hid (fun b hb => by have := HBF.out; omega)
  have HST : Hid (s.length ≤ 15 ∧ 0 < s.length) := Lib.hid ⟨by omega, by omega⟩
  generalize (w1.alloc (.cells #[.string ⟨#[102]⟩, .slice none 0 0, .int .i64 0, .slice none 0 0, .int .i64 0] 34)) = w2 at *
  generalize w1.heap.size = FB at *
  obtain ⟨N2, hN2⟩ : ∃ N, N = w2.heap.size := ⟨_, rfl⟩
  have HN2 := Lib.hid hN2
  have hfb : FB < N2 := by rw [hN2]; exact lt_block HFB.out
  have HFN := Lib.hid hfb
  clear hfb hN2
  obtain ⟨infp, hp0, hp1, hp2, hp3⟩ := infoPa
  have HIinfp := Lib.hid (And.intro hp0 (And.intro hp1 (And.intro hp2 hp3)))
  obtain ⟨infe, he0, he1, he2, he3⟩ := infoEx
  have HIinfe := Lib.hid (And.intro he0 (And.intro he1 (And.intro he2 he3)))
  clear hp0 hp1 hp2 hp3 he0 he1 he2 he3
  go_wp2_with fail
  go_loopg [7, 8] s.length (fun gk t7 t8 wr => ∃ (i : Nat) (pa ka : Option Addr) (pc kc : Nat), i + gk = s.length ∧ t8 = .int .i64 (i : Int) ∧ t7 = .slice ka i kc ∧ wr.heap[FB]? = some (.cells #[.string ⟨#[102]⟩, .slice pa i pc, .int .i64 0, .slice none 0 0, .int .i64 0] 34 (0, 0)) ∧ wr.ownsRow N2 50 2 (.slice pa i pc) i (flat (csP s) i) ∧ wr.ownsRow N2 44 5 (.slice ka i kc) i (flat (csK s) i) ∧ On FB w2 wr)
  case atStart => exact ⟨0, none, none, 0, 0, Nat.zero_add _, rfl, rfl, HFB.out, own_nil, own_nil, On.refl _ _⟩
  case round =>
    obtain ⟨i, pa, ka, pc, kc, hig, rfl, rfl, hfb, hpo, hko, hon⟩ := hrel
    have HFI := Lib.hid hfb
    have HPO := Lib.hid hpo
    have HKO := Lib.hid hko
    have HON := Lib.hid hon
    clear hfb hpo hko hon
    by_cases hil : i < s.length
    · have g2 : (i : Int) < (s.length : Int) := by omega
      have g3 : (0 : Int) ≤ (i : Int) := by omega
      have g4 : (i : Int) < 15 := by omega
      obtain ⟨sb, off, hsa, hsbl, hcell⟩ := HSRC.out HST.out.2
      subst hsa
      have HNS := Lib.hid (HSB.out _ hsbl)
      have hci : wr.cell? ⟨sb, off + i, none⟩ = some (.int .u8 ((s.getD i 0).toNat : Int)) := HON.out.cell HNS.out ((HB2.out.cell (p := ⟨sb, off + i, none⟩) hsbl).trans (hcell i hil))
      obtain ⟨cb, hcb⟩ : ∃ c, c = s.getD i 0 := ⟨_, rfl⟩
      rw [← hcb] at hci
      have HTY : Hid (1 + (cb.toNat : Int) % 3 = tyAt s i) := Lib.hid (by rw [tyAt, hcb])
      clear hcb hcell
      have hb256 : (cb.toNat : Int) < 256 := by have := cb.toNat_lt; omega
      have hb0 : (0 : Int) ≤ (cb.toNat : Int) := by omega
      go_upto_region 10 with fail
      rw [HTY.out]
      clear hci hb256 hb0 HTY
      have f1 : wr.cell? ⟨FB, 1, none⟩ = some (.slice pa i pc) := cell_of HFI.out (j := 1) rfl
      have hcv : (convert 22 9 (.slice (some ⟨wr.heap.size, 0, none⟩) 1 1)).run Try.prog (wr.alloc (.cells #[.int .u8 (97 + (i : Int))] 5)) = .ok (.string (nmP i)) (wr.alloc (.cells #[.int .u8 (97 + (i : Int))] 5)) := conv_name wr i (by omega)
      have HBN : Hid (Below wr.heap.size wr ((wr.alloc (.cells #[.int .u8 (97 + (i : Int))] 5)).alloc (.cells #[.string (nmP i), .int .i64 (tyAt s i)] 50))) := Lib.hid (up_alloc (up_alloc (Below.refl _ _) _) _)
      have HPO1 : Hid (((wr.alloc (.cells #[.int .u8 (97 + (i : Int))] 5)).alloc (.cells #[.string (nmP i), .int .i64 (tyAt s i)] 50)).ownsRow N2 50 2 (.slice pa i pc) i (flat (csP s) i)) := Lib.hid (own_below HPO.out HBN.out)
      have HKO1 : Hid (((wr.alloc (.cells #[.int .u8 (97 + (i : Int))] 5)).alloc (.cells #[.string (nmP i), .int .i64 (tyAt s i)] 50)).ownsRow N2 44 5 (.slice ka i kc) i (flat (csK s) i)) := Lib.hid (own_below HKO.out HBN.out)
      have HFI1 : Hid (((wr.alloc (.cells #[.int .u8 (97 + (i : Int))] 5)).alloc (.cells #[.string (nmP i), .int .i64 (tyAt s i)] 50)).heap[FB]? = _) := Lib.hid ((HBN.out.block _ (lt_block HFI.out)).trans HFI.out)
      have HON1 : Hid (On FB w2 ((wr.alloc (.cells #[.int .u8 (97 + (i : Int))] 5)).alloc (.cells #[.string (nmP i), .int .i64 (tyAt s i)] 50))) := Lib.hid (HON.out.trans (On.of_below HBN.out))
      have HSZ : Hid (N2 ≤ ((wr.alloc (.cells #[.int .u8 (97 + (i : Int))] 5)).alloc (.cells #[.string (nmP i), .int .i64 (tyAt s i)] 50)).heap.size) := Lib.hid (by rw [HN2.out]; exact HON1.out.size)
      go_upto_region 11 with (refine wpList_append_lies _ rfl _ _ _ rfl N2 50 infp _ 2 24 (by kernel_rfl) HIinfp.out.1 HIinfp.out.2.1 HIinfp.out.2.2.1 HIinfp.out.2.2.2 rfl (by decide) _ i (flat (csP s) i) rfl HPO1.out ⟨wr.heap.size + 1, 0, none⟩ 1 1 (csP s i) rfl rfl (lit_news (new_heap _ _ _ (by rw [size_alloc]))) (by intro u hu; simp [csP] at hu; rcases hu with rfl | rfl <;> rfl) (by decide) (by have := HST.out; unfold maxLen; omega) (by have := HST.out; omega) HSZ.out _ rfl ?_; intro  g9 cp9 w9 hown9 hgr9 _ _; have HPO2 := Lib.hid hown9; have HKO2 := Lib.hid (own_cross HKO1.out HPO1.out (by decide) hgr9); have HFI2 := Lib.hid (grown_box HFI1.out hgr9 (fun q hq => by have := (own_block HPO1.out hq).1; have := HFN.out; omega)); have HON2 := Lib.hid (HON1.out.grown hgr9 (fun q hq => by rw [← HN2.out]; exact (own_block HPO1.out hq).1)); have f2 : w9.cell? ⟨FB, 1, none⟩ = some (.slice pa i pc) := cell_of HFI2.out (j := 1) rfl; have k2 : w9.frozen? ⟨FB, 1, none⟩ = false := frozen_of HFI2.out 1; clear hown9 hgr9)
      have HFI3 : Hid ((w9.setCell ⟨FB, 1, none⟩ (.slice (some ⟨g9, 0, none⟩) (i + 1) cp9)).heap[FB]? = some (.cells #[.string ⟨#[102]⟩, .slice (some ⟨g9, 0, none⟩) (i + 1) cp9, .int .i64 0, .slice none 0 0, .int .i64 0] 34 (0, 0))) := Lib.hid (setCell_obj HFI2.out 1 _)
      have HPO3 : Hid ((w9.setCell ⟨FB, 1, none⟩ (.slice (some ⟨g9, 0, none⟩) (i + 1) cp9)).ownsRow N2 50 2 (.slice (some ⟨g9, 0, none⟩) (i + 1) cp9) (i + 1) (flat (csP s) (i + 1))) := Lib.hid (by rw [flat_succ]; exact own_set2 HPO2.out HFN.out)
      have HKO3 : Hid ((w9.setCell ⟨FB, 1, none⟩ (.slice (some ⟨g9, 0, none⟩) (i + 1) cp9)).ownsRow N2 44 5 (.slice ka i kc) i (flat (csK s) i)) := Lib.hid (own_set2 HKO2.out HFN.out)
      have HON3 : Hid (On FB w2 (w9.setCell ⟨FB, 1, none⟩ (.slice (some ⟨g9, 0, none⟩) (i + 1) cp9))) := Lib.hid (HON2.out.set 1 _)
      clear f1 hcv f2 k2 HBN HPO1 HKO1 HFI1 HON1 HSZ HPO2 HKO2 HFI2 HON2 HFI HPO HKO HON
      generalize (w9.setCell ⟨FB, 1, none⟩ (.slice (some ⟨g9, 0, none⟩) (i + 1) cp9)) = w10 at *
      have HBK : Hid (Below w10.heap.size w10 (w10.alloc (.cells #[.int .i64 (tyAt s i), .int .i64 0, .string ⟨#[]⟩, .slice none 0 0, .int .i64 0] 44))) := Lib.hid (up_alloc (Below.refl _ _) _)
      have HPO4 : Hid ((w10.alloc (.cells #[.int .i64 (tyAt s i), .int .i64 0, .string ⟨#[]⟩, .slice none 0 0, .int .i64 0] 44)).ownsRow N2 50 2 _ _ _) := Lib.hid (own_below HPO3.out HBK.out)
      have HKO4 : Hid ((w10.alloc (.cells #[.int .i64 (tyAt s i), .int .i64 0, .string ⟨#[]⟩, .slice none 0 0, .int .i64 0] 44)).ownsRow N2 44 5 _ _ _) := Lib.hid (own_below HKO3.out HBK.out)
      have HFI4 : Hid ((w10.alloc (.cells #[.int .i64 (tyAt s i), .int .i64 0, .string ⟨#[]⟩, .slice none 0 0, .int .i64 0] 44)).heap[FB]? = _) := Lib.hid ((HBK.out.block _ (lt_block HFI3.out)).trans HFI3.out)
      have HON4 : Hid (On FB w2 (w10.alloc (.cells #[.int .i64 (tyAt s i), .int .i64 0, .string ⟨#[]⟩, .slice none 0 0, .int .i64 0] 44))) := Lib.hid (HON3.out.trans (On.of_below HBK.out))
      have HSZ : Hid (N2 ≤ (w10.alloc (.cells #[.int .i64 (tyAt s i), .int .i64 0, .string ⟨#[]⟩, .slice none 0 0, .int .i64 0] 44)).heap.size) := Lib.hid (by rw [HN2.out]; exact HON4.out.size)
      go_wp2_with (refine wpList_append_lies _ rfl _ _ _ rfl N2 44 infe _ 5 64 (by kernel_rfl) HIinfe.out.1 HIinfe.out.2.1 HIinfe.out.2.2.1 HIinfe.out.2.2.2 rfl (by decide) _ i (flat (csK s) i) rfl HKO4.out ⟨w10.heap.size, 0, none⟩ 1 1 (csK s i) rfl rfl (lit_news (new_heap _ _ _ rfl)) (by intro u hu; simp [csK] at hu; rcases hu with rfl | rfl | rfl | rfl | rfl <;> rfl) (by decide) (by have := HST.out; unfold maxLen; omega) (by have := HST.out; omega) HSZ.out _ rfl ?_; intro  g8 cp8 w8 hown8 hgr8 _ _; have HKO5 := Lib.hid hown8; have HPO5 := Lib.hid (own_cross HPO4.out HKO4.out (by decide) hgr8); have HFI5 := Lib.hid (grown_box HFI4.out hgr8 (fun q hq => by have := (own_block HKO4.out hq).1; have := HFN.out; omega)); have HON5 := Lib.hid (HON4.out.grown hgr8 (fun q hq => by rw [← HN2.out]; exact (own_block HKO4.out hq).1)); clear hown8 hgr8)
      go_roundg (s.length - i - 1)
      case measure => omega
      case rel => exact ⟨i + 1, _, _, _, _, by omega, rfl, rfl, HFI5.out, HPO5.out, by rw [flat_succ]; exact HKO5.out, HON5.out⟩
    obtain rfl : i = s.length := by omega
    have g2 : ¬ (s.length : Int) < (s.length : Int) := by omega
    obtain ⟨ga, rfl⟩ : ∃ ga, ka = some ⟨ga, 0, none⟩ := by
      obtain ⟨s0, c0, e, _, _, _, hc⟩ := own_form HKO.out
      obtain ⟨g, e2, _⟩ := hc HST.out.2
      injection e with e3
      exact ⟨g, e3.trans e2⟩
    obtain ⟨k, hk⟩ : ∃ k, k = x % s.length := ⟨_, rfl⟩
    have hkl : k < s.length := by rw [hk]; exact Nat.mod_lt _ HST.out.2
    have hxk : (x : Int) % (s.length : Int) = (k : Int) := by rw [hk]; exact (Int.natCast_emod x s.length).symm
    have hnz : ¬ (s.length : Int) = 0 := by have := HST.out; omega
    have HK := Lib.hid hkl
    clear hk hkl
    have HB3 : Hid (Below w.heap.size w wr) := Lib.hid (HON.out.base HB2.out HBF.out)
    have HKR : Hid (RowOf (fun b => b = ga) wr (.slice (some ⟨ga, 0, none⟩) s.length kc) 5 s.length (csK s)) := Lib.hid (row_own HKO.out (fun _ _ => rfl))
    have HKX := Lib.hid (kids_rep HKR.out)
    have HPX := Lib.hid (pars_rep HPO.out)
    go_upto_region 14 with fail
    rw [hxk]
    clear hxk hnz
    have HGA := Lib.hid (own_obj HKO.out)
    have HE0 : Hid ((wr.alloc (.cells #[] 44)).ownsRow wr.heap.size 44 5 (.slice (some ⟨wr.heap.size, 0, none⟩) 0 0) 0 []) := Lib.hid (own_empty (new_heap _ _ _ rfl) (Nat.le_refl _))
    have hbe : Below wr.heap.size wr (wr.alloc (.cells #[] 44)) := up_alloc (Below.refl _ _) _
    have HN1 : Hid (∀ W, Below wr.heap.size wr W → ∀ j u, (flat (csK s) s.length)[j]? = some u → W.cell? ((⟨ga, 0, none⟩ : Addr).add j) = some u) := Lib.hid (fun W hW => row_news (by decide) (HKR.out.keep ⟨hW.size, fun b hb hl => hW.block b hl⟩) _ rfl)
    have HONE := Lib.hid (kids_one s s.length)
    have HSZ : Hid (wr.heap.size ≤ (wr.alloc (.cells #[] 44)).heap.size) := Lib.hid hbe.size
    go_upto_region 15 with (refine wpList_append_lies _ rfl _ _ _ rfl wr.heap.size 44 infe _ 5 64 (by kernel_rfl) HIinfe.out.1 HIinfe.out.2.1 HIinfe.out.2.2.1 HIinfe.out.2.2.2 rfl (by decide) _ 0 [] rfl HE0.out ⟨ga, 0, none⟩ s.length kc (flat (csK s) s.length) rfl (flat_len (fun _ _ => rfl)) (HN1.out _ hbe) HONE.out HST.out.2 (by have := HST.out; unfold maxLen; omega) (by have := HST.out; omega) HSZ.out _ rfl ?_; intro g9 cp9 w9 hown9 hgr9 _ _; rw [Nat.zero_add, List.nil_append] at hown9; have HO9 := Lib.hid hown9; have HB9 : Hid (Below wr.heap.size wr w9) := Lib.hid (grown_keep hgr9 hbe (Nat.le_refl _)); clear hown9 hgr9; simp only [Nat.zero_add])
    clear hbe HE0 HSZ
    have gk1 : (k : Int) < (s.length : Int) := by have := HK.out; omega
    have gk0 : (0 : Int) ≤ (k : Int) := by omega
    have g15 : (s.length : Int) ≤ 15 := by have := HST.out; omega
    have HR9 : Hid (RowOf (fun b => b = g9) w9 (.slice (some ⟨g9, 0, none⟩) s.length cp9) 5 s.length (csK s)) := Lib.hid (row_own HO9.out (fun _ _ => rfl))
    have HG9 := Lib.hid (own_obj HO9.out)
    have HTB : Hid (1 ≤ tyAt s k ∧ tyAt s k ≤ 3) := Lib.hid (by have := ty_ok s k; unfold okT at this; omega)
    have hc0 : w9.cell? ⟨ga, k * 5, none⟩ = some (.int .i64 (tyAt s k)) := (HB9.out.cell (p := ⟨ga, k * 5, none⟩) (lt_block HGA.out.2.choose_spec)).trans (row_cell HKR.out HK.out (j := 0) (by decide))
    have d0 : w9.cell? ⟨g9, k * 5, none⟩ = some (.int .i64 (tyAt s k)) := row_cell HR9.out HK.out (j := 0) (by decide)
    have d1 : w9.cell? ⟨g9, k * 5 + 1, none⟩ = some (.int .i64 0) := row_cell HR9.out HK.out (j := 1) (by decide)
    have d2 : w9.cell? ⟨g9, k * 5 + 2, none⟩ = some (.string ⟨#[]⟩) := row_cell HR9.out HK.out (j := 2) (by decide)
    have d3 : w9.cell? ⟨g9, k * 5 + 3, none⟩ = some (.slice none 0 0) := row_cell HR9.out HK.out (j := 3) (by decide)
    have d4 : w9.cell? ⟨g9, k * 5 + 4, none⟩ = some (.int .i64 0) := row_cell HR9.out HK.out (j := 4) (by decide)
    have y0 : w9.frozen? ⟨g9, k * 5, none⟩ = false := frozen_of HG9.out.2.choose_spec _
    have y1 : w9.frozen? ⟨g9, k * 5 + 1, none⟩ = false := frozen_of HG9.out.2.choose_spec _
    have y2 : w9.frozen? ⟨g9, k * 5 + 2, none⟩ = false := frozen_of HG9.out.2.choose_spec _
    have y3 : w9.frozen? ⟨g9, k * 5 + 3, none⟩ = false := frozen_of HG9.out.2.choose_spec _
    have y4 : w9.frozen? ⟨g9, k * 5 + 4, none⟩ = false := frozen_of HG9.out.2.choose_spec _
    generalize htk : tyAt s k = tk at *
    have HTK := Lib.hid htk
    clear htk
    have gt1 : 1 ≤ tk := HTB.out.1
    have gt3 : tk ≤ 3 := HTB.out.2
    go_upto_region 16 with fail
    have HB16 : Hid (Below wr.heap.size wr (((((w9.setCell ⟨g9, k * 5, none⟩ (.int .i64 (1 + tk % 3))).setCell ⟨g9, k * 5 + 1, none⟩ (.int .i64 0)).setCell ⟨g9, k * 5 + 2, none⟩ (.string ⟨#[]⟩)).setCell ⟨g9, k * 5 + 3, none⟩ (.slice none 0 0)).setCell ⟨g9, k * 5 + 4, none⟩ (.int .i64 0))) := Lib.hid (((((HB9.out.setCell (p := ⟨g9, k * 5, none⟩) HG9.out.1 _).setCell (p := ⟨g9, k * 5 + 1, none⟩) HG9.out.1 _).setCell (p := ⟨g9, k * 5 + 2, none⟩) HG9.out.1 _).setCell (p := ⟨g9, k * 5 + 3, none⟩) HG9.out.1 _).setCell (p := ⟨g9, k * 5 + 4, none⟩) HG9.out.1 _)
    have HRO : Hid (RepExs Any (((((w9.setCell ⟨g9, k * 5, none⟩ (.int .i64 (1 + tk % 3))).setCell ⟨g9, k * 5 + 1, none⟩ (.int .i64 0)).setCell ⟨g9, k * 5 + 2, none⟩ (.string ⟨#[]⟩)).setCell ⟨g9, k * 5 + 3, none⟩ (.slice none 0 0)).setCell ⟨g9, k * 5 + 4, none⟩ (.int .i64 0)) (.slice (some ⟨g9, 0, none⟩) s.length cp9) (((tysOf s).set k (1 + tk % 3)).map leafX)) := Lib.hid (other_rep (row_put5 HR9.out HK.out _ _ _ _ _) HK.out)
    clear hc0 d0 d1 d2 d3 d4 y0 y1 y2 y3 y4 HO9 HR9 HG9 HB9
    generalize (((((w9.setCell ⟨g9, k * 5, none⟩ (.int .i64 (1 + tk % 3))).setCell ⟨g9, k * 5 + 1, none⟩ (.int .i64 0)).setCell ⟨g9, k * 5 + 2, none⟩ (.string ⟨#[]⟩)).setCell ⟨g9, k * 5 + 3, none⟩ (.slice none 0 0)).setCell ⟨g9, k * 5 + 4, none⟩ (.int .i64 0)) = w16 at *
    have hbe : Below w16.heap.size w16 (w16.alloc (.cells #[] 44)) := up_alloc (Below.refl _ _) _
    have HE0 : Hid ((w16.alloc (.cells #[] 44)).ownsRow w16.heap.size 44 5 (.slice (some ⟨w16.heap.size, 0, none⟩) 0 0) 0 []) := Lib.hid (own_empty (new_heap _ _ _ rfl) (Nat.le_refl _))
    have HSZ : Hid (w16.heap.size ≤ (w16.alloc (.cells #[] 44)).heap.size) := Lib.hid hbe.size
    go_upto_region 17 with (first | (refine wpList_append_lies _ rfl _ _ _ rfl w16.heap.size 44 infe _ 5 64 (by kernel_rfl) HIinfe.out.1 HIinfe.out.2.1 HIinfe.out.2.2.1 HIinfe.out.2.2.2 rfl (by decide) _ 0 [] rfl HE0.out ⟨ga, 0, none⟩ s.length kc (flat (csK s) s.length) rfl (flat_len (fun _ _ => rfl)) (HN1.out _ (HB16.out.trans (hbe.mono HB16.out.size))) HONE.out HST.out.2 (by have := HST.out; unfold maxLen; omega) (by have := HST.out; omega) HSZ.out _ rfl ?_; intro g7 cp7 w7 hown7 hgr7 _ _; rw [Nat.zero_add, List.nil_append] at hown7; have HB7 : Hid (Below w16.heap.size w16 w7) := Lib.hid (grown_keep hgr7 hbe (Nat.le_refl _)); have HO7 : Hid ((w7.alloc (.cells #[.int .i64 1, .int .i64 0, .string ⟨#[]⟩, .slice none 0 0, .int .i64 0] 44)).ownsRow w16.heap.size 44 5 _ _ _) := Lib.hid (own_below hown7 (up_alloc (Below.refl _ _) _)); have HB8 : Hid (Below w16.heap.size w16 (w7.alloc (.cells #[.int .i64 1, .int .i64 0, .string ⟨#[]⟩, .slice none 0 0, .int .i64 0] 44))) := Lib.hid (up_alloc HB7.out _); clear hown7 hgr7; simp only [Nat.zero_add]) | (refine wpList_append_lies _ rfl _ _ _ rfl w16.heap.size 44 infe _ 5 64 (by kernel_rfl) HIinfe.out.1 HIinfe.out.2.1 HIinfe.out.2.2.1 HIinfe.out.2.2.2 rfl (by decide) _ s.length _ rfl HO7.out ⟨w7.heap.size, 0, none⟩ 1 1 [.int .i64 1, .int .i64 0, .string ⟨#[]⟩, .slice none 0 0, .int .i64 0] rfl rfl (lit_news (new_heap _ _ _ rfl)) (by intro u hu; simp at hu; rcases hu with rfl | rfl | rfl | rfl | rfl <;> rfl) (by decide) (by have := HST.out; unfold maxLen; omega) (by have := HST.out; omega) HB8.out.size _ rfl ?_; intro g6 cp6 w6 hown6 hgr6 _ _; have HO6 := Lib.hid hown6; have HB6 : Hid (Below w16.heap.size w16 w6) := Lib.hid (grown_keep hgr6 HB8.out (own_block HO7.out rfl).1); clear hown6 hgr6))
    have HB := Lib.hid (HB16.out.trans (HB6.out.mono HB16.out.size))
    have HRO6 := Lib.hid (HRO.out.keep (Stays.of_below HB6.out))
    have HRM : Hid (RepExs Any w6 (.slice (some ⟨g6, 0, none⟩) (s.length + 1) cp6) ((tysOf s ++ [1]).map leafX)) := Lib.hid (more_rep HO6.out)
    have HFI6 := Lib.hid ((HB.out.block _ (lt_block HFI.out)).trans HFI.out)
    have HRK := Lib.hid (HKX.out.keep (Stays.of_below HB.out))
    have HRP : Hid (RepPas Any w6 _ _) := Lib.hid (HPX.out.keep (Stays.of_below HB.out))
    have HBW := Lib.hid (HB3.out.trans (HB.out.mono HB3.out.size))
    have HRT := Lib.hid (tail_rep (HKR.out.keep (⟨HB.out.size, fun b hb hl => HB.out.block b hl⟩ : Stays (fun b => b = ga) wr w6)) HST.out.2)
    have HRT0 := Lib.hid (fun hc => tail_rep0 (HKR.out.keep (⟨HB.out.size, fun b hb hl => HB.out.block b hl⟩ : Stays (fun b => b = ga) wr w6)) HST.out.2 hc)
    have HPL : Hid ((parsX 0 (tysOf s)).length ≤ 100000) := Lib.hid (by rw [parsX_len, tys_len]; have := HST.out; omega)
    have HTS : Hid ((tysOf s).length ≤ 15) := Lib.hid (by rw [tys_len]; exact HST.out.1)
    have HNE : Hid (¬ (tysOf s).set k (1 + tk % 3) = tysOf s ∧ ¬ tysOf s ++ [1] = tysOf s ∧ ¬ (tysOf s).tail = tysOf s) := Lib.hid ⟨fun e => by have q := congrArg (fun l => l[k]?) e; rw [List.getElem?_set_self (by rw [tys_len]; exact HK.out), tys_get s k HK.out, HTK.out] at q; injection q with q; omega, fun e => by have := congrArg List.length e; simp at this, fun e => by have q := congrArg List.length e; rw [List.length_tail, tys_len] at q; have := HST.out; omega⟩
    clear HRO HO6 HB6 HO7 HB7 HB8 HE0 HSZ hbe HB16 HKX HPX HKR HPO HKO HN1 HONE HGA HB3 HFI
    have HCA := Lib.hid (fun (W : World) (hW : Below w6.heap.size w6 W) (us : List Int) (h2 : ∀ t, t ∈ us → okT t) (a2 : Option Addr) (n2 c2 : Nat) (hk : RepExs Any w6 (.slice a2 n2 c2) (us.map leafX)) => calls_one HTS.out (call_any W FB (parsX 0 (tysOf s)) (us.map leafX) _ a2 _ _ n2 c2 ((hW.block _ (lt_block HFI6.out)).trans HFI6.out) (HRP.out.keep (Stays.of_below hW)) (hk.keep (Stays.of_below hW)) HPL.out) (tys_ok s) h2)
    go_wp2_with fail
    refine (HCA.out _ (Below.refl _ _) _ (tys_ok s) _ _ _ HRK.out).mono ?_
    rw [if_pos rfl]
    rintro e wa ⟨rfl, hba⟩
    have HBa := Lib.hid hba
    clear hba
    go_wp2_with fail
    refine (HCA.out _ HBa.out _ (set_ok (tys_ok s) (by unfold okT; omega)) _ _ _ HRO6.out).mono ?_
    rw [if_neg HNE.out.1]
    rintro e wb ⟨rfl, hbb⟩
    have HBb := Lib.hid (HBa.out.trans (hbb.mono HBa.out.size))
    clear hbb
    go_wp2_with fail
    refine (HCA.out _ HBb.out _ (fun t ht => (List.mem_append.1 ht).elim (tys_ok s t) (fun h => by rw [List.mem_singleton] at h; exact Or.inl h)) _ _ _ HRM.out).mono ?_
    rw [if_neg HNE.out.2.1]
    rintro e wc ⟨rfl, hbc⟩
    have HBc := Lib.hid (HBb.out.trans (hbc.mono HBb.out.size))
    clear hbc
    go_wp2_with fail
    · have hq := HCA.out _ HBc.out (tysOf s).tail (fun t ht => tys_ok s t (List.mem_of_mem_tail ht)) (some ⟨ga, 0, none⟩) (s.length - 1) 0 (HRT0.out (by omega))
      rw [if_neg HNE.out.2.2] at hq
      refine hq.mono ?_
      rintro e wd ⟨rfl, hbd⟩
      have HBd := Lib.hid (HBc.out.trans (hbd.mono HBc.out.size))
      clear hbd
      go_wp2_with fail
      exact bodyPost_ret (v := .bool true) (by simp [results, Try.results7, go_sem]) rfl ⟨rfl, HBW.out.trans (HBd.out.mono HBW.out.size)⟩
    have hq := HCA.out _ HBc.out (tysOf s).tail (fun t ht => tys_ok s t (List.mem_of_mem_tail ht)) (some ⟨ga, 5, none⟩) (s.length - 1) (kc - 1) HRT.out
    rw [if_neg HNE.out.2.2] at hq
    refine hq.mono ?_
    rintro e wd ⟨rfl, hbd⟩
    have HBd := Lib.hid (HBc.out.trans (hbd.mono HBc.out.size))
    clear hbd
    go_wp2_with fail
    exact bodyPost_ret (v := .bool true) (by simp [results, Try.results7, go_sem]) rfl ⟨rfl, HBW.out.trans (HBd.out.mono HBW.out.size)⟩
end Go.Proofs.Ytpiamiaigjlafaa
