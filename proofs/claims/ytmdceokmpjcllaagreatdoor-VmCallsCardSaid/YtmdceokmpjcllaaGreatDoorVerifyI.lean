/-
  The walk of 'safe': one round.
-/
import Derived.Test.YtmdceokmpjcllaaGreatDoorVerifyH
namespace Go.Proofs.YtmdceokmpjcllaaGreatDoor
open Go.RowKit
attribute [local go_sem ↓] Go.wp_at_zero Go.wp_at_succ

/-- what holds ahead of each round of 'safe' -/
structure SafeInv (base : Nat) (B W : World) (n ab : Nat) (s6 : Value) (tab : Tab) (pile : List Nat) (ks : Nat → Nat) : Prop where
  below : Below base B W
  tabAt : TabAt base W ab n tab ks
  pileAt : PileAt base W s6 pile
  ne : pile ≠ []
  inn : ∀ p, p ∈ pile → p < n ∧ (tab p).isSome = true
  muLe : mu n (tab, pile) ≤ 5000000
theorem stepTo_inn {n : Nat} {s : Sta} {tg : Int} {x y : Tab × List Nat} (h : stepTo n s tg x = some y) (hx : ∀ p, p ∈ x.2 → p < n ∧ (x.1 p).isSome = true) : ∀ p, p ∈ y.2 → p < n ∧ (y.1 p).isSome = true := by
  have hup : ∀ (s' : Sta) p, (x.1 p).isSome = true → (upd x.1 tg.toNat s' p).isSome = true := fun s' p hp => by
    unfold upd; split
    · rfl
    · exact hp
  have hself : ∀ (s' : Sta), (upd x.1 tg.toNat s' tg.toNat).isSome = true := fun s' => by simp [upd]
  unfold stepTo at h
  split at h
  · rename_i hin
    have hb : 0 ≤ tg ∧ tg < n := by simpa [inB] using hin
    have hlt : tg.toNat < n := by omega
    split at h
    · injection h with h
      subst h
      intro p hp
      rcases List.mem_append.1 hp with hp | hp
      · exact ⟨(hx p hp).1, hup _ _ (hx p hp).2⟩
      · obtain rfl : p = tg.toNat := by simpa using hp
        exact ⟨hlt, hself _⟩
    · split at h
      · injection h with h
        subst h
        intro p hp
        dsimp only at hp
        split at hp
        · rcases List.mem_append.1 hp with hp | hp
          · exact ⟨(hx p hp).1, hup _ _ (hx p hp).2⟩
          · obtain rfl : p = tg.toNat := by simpa using hp
            exact ⟨hlt, hself _⟩
        · exact ⟨(hx p hp).1, hup _ _ (hx p hp).2⟩
      · cases h
  · cases h
theorem foldTo_inn {n : Nat} {s : Sta} (l : List Int) : ∀ {x y : Tab × List Nat}, foldTo n s l x = some y → (∀ p, p ∈ x.2 → p < n ∧ (x.1 p).isSome = true) → ∀ p, p ∈ y.2 → p < n ∧ (y.1 p).isSome = true := by
  induction l with
  | nil => intro x y h hx; injection h with h; subst h; exact hx
  | cons t r ih =>
    intro x y h hx
    unfold foldTo at h
    cases hq : stepTo n s t x with
    | none => rw [hq] at h; cases h
    | some z => rw [hq] at h; exact ih h (stepTo_inn hq hx)
theorem stepW_at (c : Cd) (m : Mdl) (tab : Tab) (l : List Nat) (p : Nat) (s : Sta) (hs : tab p = some s) : stepW c m (tab, l ++ [p]) =
    match doesS c m (c.ins.getD p default) s with
    | none => .inr false
    | some s' =>
      if 2100 < s'.st.length then .inr false
      else
        match foldTo c.ins.length s' (behindL p (c.ins.getD p default)) (tab, l) with
        | none => .inr false
        | some y => if y.2 = [] then .inr true else .inl y := by
  have h1 : (l ++ [p]).getLast? = some p := by simp
  have h2 : (l ++ [p]).dropLast = l := by simp
  unfold stepW
  simp only [h1, h2, hs]
  rfl
theorem safe_copy {base : Nat} {B W W1 : World} {n ab p : Nat} {s6 sv : Value} {tab : Tab} {pile : List Nat} {ks : Nat → Nat} {s : Sta} {cs : List Value} (h : SafeInv base B W n ab s6 tab pile ks) (hp : p < n) (hs : tab p = some s) (hsv : StkAt W sv s.st)
    (hcs : cs = sv :: slCells s.sl) (hw : W1 = W.alloc (.cells cs.toArray 110)) : StAt W1 W.heap.size s.st s.sl ∧ Below base B W1 ∧ base ≤ W.heap.size := by
  obtain ⟨h1, h2, h3⟩ := h.tabAt.st p s hp hs
  have hbk : base ≤ W.heap.size := by
    obtain ⟨_, _, q⟩ := h3.ofTy
    have := lt_of_block q
    omega
  have hold : ∀ b, b < W.heap.size → W1.heap[b]? = W.heap[b]? := fun b hb => by rw [hw]; exact Below.heap_alloc _ _ _ hb
  refine ⟨?_, ?_, hbk⟩
  · refine stAt_of (sv := sv) ⟨cs.toArray, by rw [hw]; exact new_heap _ _ _ rfl⟩ (hsv.keep fun b a fz q => hold b (lt_of_block q)) (fun j v hv => ?_) h3.i64s
    rw [hw, Nat.zero_add]
    refine new_cell _ _ _ _ _ _ rfl ?_
    rw [hcs]
    simpa using hv
  · rw [hw]; exact h.below.alloc (Nat.le_trans hbk (Nat.le_refl _)) _

theorem behind_len (p : Int) (i : Ins) : (behindL p i).length ≤ 2 := by unfold behindL; split <;> (try split) <;> (try split) <;> simp
theorem mu_pop (n : Nat) (tab : Tab) (l : List Nat) (p : Nat) : mu n (tab, l) < mu n (tab, l ++ [p]) := by simp [mu]
theorem beq_len {l : List Nat} (h : l ≠ []) : ((l.length : Int) == 0) = false := by
  have : l.length ≠ 0 := fun e => h (List.eq_nil_of_length_eq_zero e)
  simp; omega
theorem round_fold {base : Nat} {B W W1 W2 W3 : World} {n ab g cap p : Nat} {tab : Tab} {l : List Nat} {ks : Nat → Nat} {cs : List Value} {s' : Sta} {vl : Value} {L : List Int} (h : SafeInv base B W n ab (.slice (some ⟨g, 0, none⟩) (l.length + 1) cap) tab (l ++ [p]) ks)
    (hw : W1 = W.alloc (.cells cs.toArray 110)) (hon : On W.heap.size W1.drew W2) (hb3 : Below W2.heap.size W2 W3) (hst : StAt W2 W.heap.size s'.st s'.sl) (hnums : NumsAt W3 vl L) :
    FoldInv base W3 W3 ab n s' W.heap.size vl L (.slice (some ⟨g, 0, none⟩) l.length cap) tab l ks := by
  have hold : ∀ b, b < W.heap.size → W3.heap[b]? = W.heap[b]? := fun b hb => by
    have e1 : W1.heap[b]? = W.heap[b]? := by rw [hw]; exact Below.heap_alloc _ _ _ hb
    have hs1 : W1.heap.size = W.heap.size + 1 := by rw [hw, size_alloc]
    have e2 : W2.heap[b]? = W1.heap[b]? := hon.block b (by show b < W1.heap.size; omega) (fun e => by injection e with e; omega)
    have hs2 : W1.heap.size ≤ W2.heap.size := hon.size
    rw [hb3.block b (by omega), e2, e1]
  refine ⟨⟨rfl, rfl, rfl, Nat.le_refl _, fun _ _ => rfl⟩, h.tabAt.later hold, (h.pileAt.later hold).drop, hst.later (fun b hb => hb3.block b hb), fun j hj hs => ?_, hnums, ?_⟩
  · obtain ⟨s, hs⟩ := Option.isSome_iff_exists.1 hs
    obtain ⟨_, _, q⟩ := (h.tabAt.st j s hj hs).2.2.ofTy
    have := lt_of_block q
    omega
  · have h5 : pot tab n + (l ++ [p]).length ≤ 5000000 := h.muLe
    show pot tab n + l.length ≤ 5000000
    simp only [List.length_append, List.length_cons, List.length_nil] at h5
    omega

set_option maxRecDepth 100000 in
set_option maxHeartbeats 8000000 in
theorem round_wp {C : Code} (hC : C = codeAt ((Tryz.f41.body).getD .skip) [true, false, true, true, true, true, true, true, false, false, false]) {Q : Exit → Act → World → Prop} {u0 u1 u4 u6 u7 u8 u9 u10 u11 u12 u13 u14 u15 u16 u17 u18 u19 u20 u21 u22 u23 u24 u25 u26 u27 u28 u29 u30 u31 u32 u33 u34 u35 u36 u37 u38 u39 u40 u41 u42 u43 u44 u45 u46 u47 u48 u49 u50 u51 u52 u53 u54 u55 u56 u57 u58 u59 u60 u61 u62 u63 u64 u65 u66 u67 u68 u69 u70 u71 u72 u73 u74 u75 u76 u77 u78 u79 u80 u81 u82 u83 u84 u85 u86 u87 u88 u89 u90 u91 u92 u93 u94 u95 u96 u97 u98 u99 u100 u101 u102 u103 u104 u105 u106 u107 u108 u109 u110 u111 u112 u113 u114 u115 u116 u117 u118 u119 u120 u121 u122 u123 u124 u125 u126 u127 u128 u129 u130 u131 u132 u133 u134 u135 u136 u137 u138 u139 u140 u141 u142 u143 u144 u145 u146 u147 u148 u149 u150 u151 u152 u153 : Value}
    (c : Cd) (m : Mdl) (w0 B : World) (mb cb ab n : Nat) (x0 x1 v0 v1 v2 v3 v4 : Value) (tab : Tab) (pile : List Nat) (ks : Nat → Nat) {wr : World}
    (hinv : SafeInv B.heap.size B wr n ab u6 tab pile ks) (hB0 : Below w0.heap.size w0 B)
    (hbox : ∀ W, Below B.heap.size B W → W.cell? ⟨mb, 0, none⟩ = some x0 ∧ W.cell? ⟨mb, 1, none⟩ = some x1 ∧ W.cell? ⟨cb, 0, none⟩ = some v0 ∧ W.cell? ⟨cb, 1, none⟩ = some v1 ∧ W.cell? ⟨cb, 2, none⟩ = some v2 ∧ W.cell? ⟨cb, 3, none⟩ = some v3 ∧ W.cell? ⟨cb, 4, none⟩ = some v4)
    (hc : RepCd w0 v0 v1 v2 v3 v4 c) (hm : RepMdl w0 (.agg #[x0, x1]) m) (hsg : Signs w0) (hsl : c.slots ≤ 256) (hn : c.ins.length = n) (hn16 : n ≤ 16384)
    (hQp : ∀ x (t t' : Array Value) d w, Q (.panic x) ⟨t, d⟩ w → Q (.panic x) ⟨t', d⟩ w)
    (h1 : ∀ (u4 u6 u7 u8 u10 u11 u12 u13 u14 u37 u38 u39 u40 u41 u42 u43 u44 u45 u46 u47 u48 u49 u50 u51 u52 u53 u54 u55 u56 u57 u58 u59 u60 u61 u62 u63 u64 u65 u66 u67 u68 u69 u70 u71 u72 u73 u74 u75 u76 u77 u78 u79 u80 u81 u82 u83 u84 u85 u86 u87 u88 u89 u90 u91 u92 u93 u94 u95 u96 u97 u98 u99 u100 u101 u102 u103 u104 u105 u106 u107 u108 u109 u110 u111 u112 u113 u114 u115 u116 u117 u118 u119 u120 u121 u122 u123 u124 u125 u126 u127 u128 u129 u130 u131 u132 u133 u134 u135 u136 u137 u138 u139 u140 u141 u142 u143 u144 u145 u146 u147 u148 u149 u150 u151 u152 u153 : Value) (w' : World) (tab' : Tab) (pile' : List Nat) (ks' : Nat → Nat), stepW c m (tab, pile) = .inl (tab', pile') → SafeInv B.heap.size B w' n ab u6 tab' pile' ks' → mu n (tab', pile') < mu n (tab, pile) → Q .normal ⟨#[u0, u1, .pointer (some ⟨mb, 0, none⟩), .pointer (some ⟨cb, 0, none⟩), u4, .slice (some ⟨ab, 0, none⟩) n n, u6, u7, u8, u9, u10, u11, u12, u13, u14, u15, u16, u17, u18, u19, u20, u21, u22, u23, u24, u25, u26, u27, u28, u29, u30, u31, u32, u33, u34, u35, u36, u37, u38, u39, u40, u41, u42, u43, u44, u45, u46, u47, u48, u49, u50, u51, u52, u53, u54, u55, u56, u57, u58, u59, u60, u61, u62, u63, u64, u65, u66, u67, u68, u69, u70, u71, u72, u73, u74, u75, u76, u77, u78, u79, u80, u81, u82, u83, u84, u85, u86, u87, u88, u89, u90, u91, u92, u93, u94, u95, u96, u97, u98, u99, u100, u101, u102, u103, u104, u105, u106, u107, u108, u109, u110, u111, u112, u113, u114, u115, u116, u117, u118, u119, u120, u121, u122, u123, u124, u125, u126, u127, u128, u129, u130, u131, u132, u133, u134, u135, u136, u137, u138, u139, u140, u141, u142, u143, u144, u145, u146, u147, u148, u149, u150, u151, u152, u153], []⟩ w')
    (h2 : ∀ (b : Bool), stepW c m (tab, pile) = .inr b → ∀ (u6 u7 u8 u10 u11 u12 u13 u14 u37 u38 u39 u40 u41 u42 u43 u44 u45 u46 u47 u48 u49 u50 u51 u52 u53 u54 u55 u56 u57 u58 u59 u60 u61 u62 u63 u64 u65 u66 u67 u68 u69 u70 u71 u72 u73 u74 u75 u76 u77 u78 u79 u80 u81 u82 u83 u84 u85 u86 u87 u88 u89 u90 u91 u92 u93 u94 u95 u96 u97 u98 u99 u100 u101 u102 u103 u104 u105 u106 u107 u108 u109 u110 u111 u112 u113 u114 u115 u116 u117 u118 u119 u120 u121 u122 u123 u124 u125 u126 u127 u128 u129 u130 u131 u132 u133 u134 u135 u136 u137 u138 u139 u140 u141 u142 u143 u144 u145 u146 u147 u148 u149 u150 u151 u152 u153 : Value) (w' : World), Below B.heap.size B w' → Q .ret ⟨#[u0, u1, .pointer (some ⟨mb, 0, none⟩), .pointer (some ⟨cb, 0, none⟩), .bool b, .slice (some ⟨ab, 0, none⟩) n n, u6, u7, u8, u9, u10, u11, u12, u13, u14, u15, u16, u17, u18, u19, u20, u21, u22, u23, u24, u25, u26, u27, u28, u29, u30, u31, u32, u33, u34, u35, u36, u37, u38, u39, u40, u41, u42, u43, u44, u45, u46, u47, u48, u49, u50, u51, u52, u53, u54, u55, u56, u57, u58, u59, u60, u61, u62, u63, u64, u65, u66, u67, u68, u69, u70, u71, u72, u73, u74, u75, u76, u77, u78, u79, u80, u81, u82, u83, u84, u85, u86, u87, u88, u89, u90, u91, u92, u93, u94, u95, u96, u97, u98, u99, u100, u101, u102, u103, u104, u105, u106, u107, u108, u109, u110, u111, u112, u113, u114, u115, u116, u117, u118, u119, u120, u121, u122, u123, u124, u125, u126, u127, u128, u129, u130, u131, u132, u133, u134, u135, u136, u137, u138, u139, u140, u141, u142, u143, u144, u145, u146, u147, u148, u149, u150, u151, u152, u153], []⟩ w')
    (h3 : stepW c m (tab, pile) = .inr false → ∀ (u4 u6 u7 u8 u10 u11 u12 u13 u14 u37 u38 u39 u40 u41 u42 u43 u44 u45 u46 u47 u48 u49 u50 u51 u52 u53 u54 u55 u56 u57 u58 u59 u60 u61 u62 u63 u64 u65 u66 u67 u68 u69 u70 u71 u72 u73 u74 u75 u76 u77 u78 u79 u80 u81 u82 u83 u84 u85 u86 u87 u88 u89 u90 u91 u92 u93 u94 u95 u96 u97 u98 u99 u100 u101 u102 u103 u104 u105 u106 u107 u108 u109 u110 u111 u112 u113 u114 u115 u116 u117 u118 u119 u120 u121 u122 u123 u124 u125 u126 u127 u128 u129 u130 u131 u132 u133 u134 u135 u136 u137 u138 u139 u140 u141 u142 u143 u144 u145 u146 u147 u148 u149 u150 u151 u152 u153 : Value) (w' : World), Below B.heap.size B w' → Q (.exit 0) ⟨#[u0, u1, .pointer (some ⟨mb, 0, none⟩), .pointer (some ⟨cb, 0, none⟩), u4, .slice (some ⟨ab, 0, none⟩) n n, u6, u7, u8, u9, u10, u11, u12, u13, u14, u15, u16, u17, u18, u19, u20, u21, u22, u23, u24, u25, u26, u27, u28, u29, u30, u31, u32, u33, u34, u35, u36, u37, u38, u39, u40, u41, u42, u43, u44, u45, u46, u47, u48, u49, u50, u51, u52, u53, u54, u55, u56, u57, u58, u59, u60, u61, u62, u63, u64, u65, u66, u67, u68, u69, u70, u71, u72, u73, u74, u75, u76, u77, u78, u79, u80, u81, u82, u83, u84, u85, u86, u87, u88, u89, u90, u91, u92, u93, u94, u95, u96, u97, u98, u99, u100, u101, u102, u103, u104, u105, u106, u107, u108, u109, u110, u111, u112, u113, u114, u115, u116, u117, u118, u119, u120, u121, u122, u123, u124, u125, u126, u127, u128, u129, u130, u131, u132, u133, u134, u135, u136, u137, u138, u139, u140, u141, u142, u143, u144, u145, u146, u147, u148, u149, u150, u151, u152, u153], []⟩ w') :
    Code.wp Tryz.prog C Q ⟨#[u0, u1, .pointer (some ⟨mb, 0, none⟩), .pointer (some ⟨cb, 0, none⟩), u4, .slice (some ⟨ab, 0, none⟩) n n, u6, u7, u8, u9, u10, u11, u12, u13, u14, u15, u16, u17, u18, u19, u20, u21, u22, u23, u24, u25, u26, u27, u28, u29, u30, u31, u32, u33, u34, u35, u36, u37, u38, u39, u40, u41, u42, u43, u44, u45, u46, u47, u48, u49, u50, u51, u52, u53, u54, u55, u56, u57, u58, u59, u60, u61, u62, u63, u64, u65, u66, u67, u68, u69, u70, u71, u72, u73, u74, u75, u76, u77, u78, u79, u80, u81, u82, u83, u84, u85, u86, u87, u88, u89, u90, u91, u92, u93, u94, u95, u96, u97, u98, u99, u100, u101, u102, u103, u104, u105, u106, u107, u108, u109, u110, u111, u112, u113, u114, u115, u116, u117, u118, u119, u120, u121, u122, u123, u124, u125, u126, u127, u128, u129, u130, u131, u132, u133, u134, u135, u136, u137, u138, u139, u140, u141, u142, u143, u144, u145, u146, u147, u148, u149, u150, u151, u152, u153], []⟩ wr := by
  simp only [Tryz.f41, codeAt, Option.getD] at hC
  subst hC
  have HQP : Hid (∀ c (a : Act) o v w, Q (.panic c) (a.put o v) w → Q (.panic c) a w) := Lib.hid (fun c a o v w h => by cases o <;> exact hQp c _ a.tmps a.defers w h)
  have HQ0 := Lib.hid hQp
  have H1 := Lib.hid h1
  have H2 := Lib.hid h2
  have H3 := Lib.hid h3
  have HI := Lib.hid hinv
  have HC := Lib.hid hc
  have HM := Lib.hid hm
  have HG := Lib.hid hsg
  have HB0 := Lib.hid hB0
  have HBC := Lib.hid hbox
  have HN0 := Lib.hid hn
  clear hQp h1 h2 h3 hm hsg hbox
  obtain ⟨m1, m2, m3, m4, m5, m6, m7, m8⟩ := hc
  obtain ⟨s4, cap4, rfl, i1, i2, i3, i4, i5, i6⟩ := m6
  clear m1 m2 m3 m4 m5 m7 m8 i1 i3 i4 i6
  rw [hn] at i2 i5 HBC HC
  have HRI : Hid (∀ W p, Below B.heap.size B W → p < n → ∃ b4 o4, s4 = some ⟨b4, o4, none⟩ ∧ W.cell? ⟨b4, o4 + p * 2, none⟩ = some (.int .i64 (c.ins.getD p default).op) ∧ W.cell? ⟨b4, o4 + p * 2 + 1, none⟩ = some (.int .i64 (c.ins.getD p default).a)) := Lib.hid (fun W p hW hp => by
    obtain ⟨b4, o4, q1, q2, q3⟩ := i5 (by omega)
    have hWw : Below w0.heap.size w0 W := HB0.out.trans (hW.mono (HB0.out.size))
    obtain ⟨q4, q5⟩ := q3 p hp
    exact ⟨b4, o4, q1, (up_cell hWw _ _ q2).trans q4, (up_cell hWw _ _ q2).trans q5⟩)
  obtain ⟨hbel, htab, hpile, hne, hinn, _⟩ := hinv
  obtain ⟨l, p, rfl⟩ : ∃ l p, pile = l ++ [p] := ⟨_, _, (List.dropLast_concat_getLast hne).symm⟩
  obtain ⟨hpn, hps⟩ := hinn p (by simp)
  obtain ⟨s, hs⟩ := Option.isSome_iff_exists.1 hps
  obtain ⟨hkb, hsl21, hst⟩ := htab.st p s hpn hs
  obtain ⟨sv, hsv, hrng⟩ := hst.whole
  obtain ⟨g, cap, hs6, hcap, hgb, hgo, hcells⟩ := hpile.form
  have hcp := hcells l.length (by simp)
  have hca := htab.cell p hpn
  rw [hs, ptrOf_some] at hca
  obtain ⟨b4, o4, hs4, hi1, hi2⟩ := HRI.out wr p hbel hpn
  subst hs4
  rw [show (l ++ [p]).getD l.length 0 = p by simp] at hcp
  have hle : (l ++ [p]).length = l.length + 1 := by simp
  rw [hle] at hs6 hcap
  subst hs6
  have hpn2 : (p : Int) < (n : Int) := by omega
  have hp0 : (0 : Int) ≤ (p : Int) := by omega
  have hL : l.length + 1 ≤ 5000000 := by
    have h5 : pot tab n + (l ++ [p]).length ≤ 5000000 := HI.out.muLe
    rw [hle] at h5
    omega
  have g1 : IntKind.i64.wrap (l.length : Int) = (l.length : Int) := IntWalk.i64_in _ (by omega)
  have HPB : Hid (0 ≤ (p : Int) ∧ (p : Int) ≤ 1000000000) := Lib.hid (by omega)
  obtain ⟨cs, hcs⟩ : ∃ cs, cs = sv :: slCells s.sl := ⟨_, rfl⟩
  rw [← hcs] at hrng
  have hcl : cs.length = 257 := by rw [hcs, List.length_cons, slCells_len]
  have hsz : (Tryz.prog.info? 110).map (·.size) = some cs.length := by rw [hcs]; exact size58 _ _
  have hsc := run_storeCells_new (P := Tryz.prog) wr 110 z58 cs.toArray (by rw [hsz]; simp) (by simp [z58, slCells_len, hcl]) (all_oneCell_toArray (by rw [hcs]; exact st_one hsv _))
  rw [show cs.toArray.toList = cs by simp] at hsc
  have hz58 := zero58
  have HS := Lib.hid hsz
  have HCS := Lib.hid hcs
  have HSP := Lib.hid hs
  have HSV := Lib.hid hsv
  have HN := Lib.hid hrng
  have HL21 := Lib.hid hsl21
  clear hcs hsz hrng hcells htab hpile hinn hs hsv hst hgo hbel hL hle i5 hB0
  go_wp2_with fail
  refine wp_load_mid _ _ rfl (ks p) 0 rfl cs _ HN.out Tryz.underlying110 rfl HS.out ?_
  go_wp2_with fail
  obtain ⟨w1, hw1⟩ : ∃ w1, w1 = wr.alloc (.cells cs.toArray 110) := ⟨_, rfl⟩
  rw [← hw1]
  have HK1 := Lib.hid (safe_copy HI.out hpn HSP.out HSV.out HCS.out hw1)
  have HW1 := Lib.hid hw1
  clear hsc hz58 hcp hca hi1 hi2 hw1 hcl
  have HS1 := Lib.hid HK1.out.1
  have HB1 := Lib.hid HK1.out.2.1
  obtain ⟨y1, y2, y3, y4, y5, y6, y7⟩ := HBC.out w1 HB1.out
  obtain ⟨b4', o4', hbe, y8, y9⟩ := HRI.out w1 p HB1.out hpn
  injection hbe with hbe
  injection hbe with hbe1 hbe2
  subst hbe1
  subst hbe2
  have HD := Lib.hid (fun W (h1 : StAt W wr.heap.size s.st s.sl) (h2 : Below B.heap.size B W) => does_any wr.heap.size s c m (c.ins.getD p default) v0 _ _ _ _ _ w0 W h1 (by have := HL21.out; omega) HC.out HM.out hsl HG.out (HB0.out.trans (h2.mono HB0.out.size)) (Nat.le_trans HB0.out.size HK1.out.2.2))
  have HST := Lib.hid (stepW_at c m tab l p s HSP.out)
  generalize doesS c m (c.ins.getD p default) s = r at *
  generalize hins : c.ins.getD p default = ins at *
  obtain ⟨op, ia⟩ := ins
  have HINS := Lib.hid hins
  clear hins
  dsimp only at HD y8 y9
  refine wp_region_split (S := (fun w' => w'.cell? ⟨mb, 0, none⟩ = some x0 ∧ w'.cell? ⟨mb, 1, none⟩ = some x1 ∧ w'.cell? ⟨cb, 0, none⟩ = some v0 ∧ w'.cell? ⟨cb, 1, none⟩ = some v1 ∧ w'.cell? ⟨cb, 2, none⟩ = some v2 ∧ w'.cell? ⟨cb, 3, none⟩ = some v3 ∧ w'.cell? ⟨cb, 4, none⟩ = some (.slice (some ⟨b4, o4, none⟩) n cap4) ∧ w'.cell? ⟨b4, o4 + p * 2, none⟩ = some (.int .i64 op) ∧ w'.cell? ⟨b4, o4 + p * 2 + 1, none⟩ = some (.int .i64 ia))) 7 (by kernel_rfl) (by kernel_rfl) (by exact ⟨y1, y2, y3, y4, y5, y6, y7, y8, y9⟩) (fun hHeld => ?_)
  simp only [List.take_succ_cons, List.take_zero, List.drop_succ_cons, List.drop_zero]
  refine wpAnyH_take (i := 0) (v := ?_) rfl (by kernel_rfl) (by kernel_rfl) (by kernel_rfl) (fun c a w h => HQP.out c a _ _ w h) (Or.inl ⟨by rfl, ?_⟩) (by assumption) ?_
  rotate_left 1
  · (intro w hSw; (try dsimp only at hSw); go_simp; try with_reducible rfl)
  try simp only [Act.put, List.setIfInBounds_toArray, List.set_cons_zero, List.set_cons_succ, List.getElem_toArray, List.getElem_cons_zero]
  refine wpAnyH_take (i := 1) (v := ?_) rfl (by kernel_rfl) (by kernel_rfl) (by kernel_rfl) (fun c a w h => HQP.out c a _ _ w h) (Or.inl ⟨by rfl, ?_⟩) (by assumption) ?_
  rotate_left 1
  · (intro w hSw; (try dsimp only at hSw); go_simp; try with_reducible rfl)
  try simp only [Act.put, List.setIfInBounds_toArray, List.set_cons_zero, List.set_cons_succ, List.getElem_toArray, List.getElem_cons_zero, List.getElem_cons_succ]
  refine wpAnyH_take (i := 2) (v := ?_) rfl (by kernel_rfl) (by kernel_rfl) (by kernel_rfl) (fun c a w h => HQP.out c a _ _ w h) (Or.inl ⟨by rfl, ?_⟩) (by assumption) ?_
  rotate_left 1
  · (intro w hSw; (try dsimp only at hSw); go_simp; try with_reducible rfl)
  try simp only [Act.put, List.setIfInBounds_toArray, List.set_cons_zero, List.set_cons_succ, List.getElem_toArray, List.getElem_cons_zero, List.getElem_cons_succ]
  refine wpAnyH_take (i := 3) (v := ?_) rfl (by kernel_rfl) (by kernel_rfl) (by kernel_rfl) (fun c a w h => HQP.out c a _ _ w h) (Or.inl ⟨by rfl, ?_⟩) (by assumption) ?_
  rotate_left 1
  · (intro w hSw; (try dsimp only at hSw); go_simp; try with_reducible rfl)
  try simp only [Act.put, List.setIfInBounds_toArray, List.set_cons_zero, List.set_cons_succ, List.getElem_toArray, List.getElem_cons_zero, List.getElem_cons_succ]
  refine wpAnyH_take (i := 4) (v := ?_) rfl (by kernel_rfl) (by kernel_rfl) (by kernel_rfl) (fun c a w h => HQP.out c a _ _ w h) (Or.inl ⟨by rfl, ?_⟩) (by assumption) ?_
  rotate_left 1
  · (intro w hSw; (try dsimp only at hSw); go_simp; try with_reducible rfl)
  try simp only [Act.put, List.setIfInBounds_toArray, List.set_cons_zero, List.set_cons_succ, List.getElem_toArray, List.getElem_cons_zero, List.getElem_cons_succ]
  refine wpAnyH_take (i := 5) (v := ?_) rfl (by kernel_rfl) (by kernel_rfl) (by kernel_rfl) (fun c a w h => HQP.out c a _ _ w h) (Or.inl ⟨by rfl, ?_⟩) (by assumption) ?_
  rotate_left 1
  · (intro w hSw; (try dsimp only at hSw); go_simp; try with_reducible rfl)
  try simp only [Act.put, List.setIfInBounds_toArray, List.set_cons_zero, List.set_cons_succ, List.getElem_toArray, List.getElem_cons_zero, List.getElem_cons_succ]
  refine wpAnyH_take (i := 6) (v := ?_) rfl (by kernel_rfl) (by kernel_rfl) (by kernel_rfl) (fun c a w h => HQP.out c a _ _ w h) (Or.inl ⟨by rfl, ?_⟩) (by assumption) ?_
  rotate_left 1
  · (intro w hSw; (try dsimp only at hSw); go_simp; try with_reducible rfl)
  try simp only [Act.put, List.setIfInBounds_toArray, List.set_cons_zero, List.set_cons_succ, List.getElem_toArray, List.getElem_cons_zero, List.getElem_cons_succ]
  refine wpAnyH_done (by kernel_rfl) ?_ _
  change wpList _ _ _ _ _ _
  go_wp2_with fail
  refine (HD.out w1.drew (HS1.out.drewN 1) HB1.out.drew).mono ?_
  rintro e w2 ⟨rfl, hon, hst2⟩
  have HB2 := Lib.hid (hon.base HB1.out.drew HK1.out.2.2)
  have HON := Lib.hid hon
  have HS2 := Lib.hid hst2
  clear hon hst2 y1 y2 y3 y4 y5 y6 y7 y8 y9
  cases r with
  | none =>
    have HST2 : Hid (stepW c m (tab, l ++ [p]) = .inr false) := Lib.hid HST.out
    clear HST
    go_wp2_with fail
    exact H3.out HST2.out _ _ _ _ _ _ _ _ _ _ _ _ _ _ _ _ _ _ _ _ _ _ _ _ _ _ _ _ _ _ _ _ _ _ _ _ _ _ _ _ _ _ _ _ _ _ _ _ _ _ _ _ _ _ _ _ _ _ _ _ _ _ _ _ _ _ _ _ _ _ _ _ _ _ _ _ _ _ _ _ _ _ _ _ _ _ _ _ _ _ _ _ _ _ _ _ _ _ _ _ _ _ _ _ _ _ _ _ _ _ _ _ _ _ _ _ _ _ _ _ _ _ _ _ _ _ w2 HB2.out
  | some s' =>
    obtain ⟨ss, caps, hcl⟩ := (HS2.out s' rfl).len
    by_cases hlong : 2100 < s'.st.length
    · have HST2 : Hid (stepW c m (tab, l ++ [p]) = .inr false) := Lib.hid (by rw [HST.out]; simp [hlong])
      have hl2 : (2100 : Int) < (s'.st.length : Int) := Int.ofNat_lt.2 hlong
      clear HST hlong
      go_wp2_with fail
      exact H3.out HST2.out _ _ _ _ _ _ _ _ _ _ _ _ _ _ _ _ _ _ _ _ _ _ _ _ _ _ _ _ _ _ _ _ _ _ _ _ _ _ _ _ _ _ _ _ _ _ _ _ _ _ _ _ _ _ _ _ _ _ _ _ _ _ _ _ _ _ _ _ _ _ _ _ _ _ _ _ _ _ _ _ _ _ _ _ _ _ _ _ _ _ _ _ _ _ _ _ _ _ _ _ _ _ _ _ _ _ _ _ _ _ _ _ _ _ _ _ _ _ _ _ _ _ _ _ _ _ w2 HB2.out
    · have hl2 : ¬ (2100 : Int) < (s'.st.length : Int) := by omega
      have hl4 : s'.st.length ≤ 2100 := by omega
      have HST2 : Hid (∀ o, foldTo n s' (behindL p ⟨op, ia⟩) (tab, l) = o → stepW c m (tab, l ++ [p]) = match o with | none => .inr false | some y => if y.2 = [] then .inr true else .inl y) := Lib.hid (fun o ho => by
        rw [HST.out]
        simp only [if_neg hlong, HN0.out, ho])
      have HL4 := Lib.hid hl4
      obtain ⟨_, _, _, _, _, _, z7⟩ := HBC.out w2 HB2.out
      obtain ⟨b4', o4', hbe, z8, z9⟩ := HRI.out w2 p HB2.out hpn
      rw [HINS.out] at z8 z9
      dsimp only at z8 z9
      injection hbe with hbe
      injection hbe with hbe1 hbe2
      subst hbe1
      subst hbe2
      clear HST hlong hl4
      go_wp2_with fail
      refine (behind_any p op ia w2 HPB.out).mono ?_
      rintro e w3 ⟨vl, rfl, hnums, hb3⟩
      have hlen2 := behind_len p ⟨op, ia⟩
      have HF := Lib.hid (round_fold HI.out HW1.out HON.out hb3 (HS2.out s' rfl) hnums)
      have HB3 := Lib.hid (HB2.out.trans (hb3.mono (HB2.out.size)))
      obtain ⟨vs, rfl, _⟩ := hnums
      generalize behindL p ⟨op, ia⟩ = L at *
      have HL2 := Lib.hid hlen2
      clear hlen2 z7 z8 z9 hb3 hcl hl2
      go_upto_block 2 with fail
      refine fold_wp (by kernel_rfl) B.heap.size ab n wr.heap.size s' _ L tab l ks HF.out HK1.out.2.2 HL4.out HL2.out (fun x t t' d w h => HQ0.out x t t' d w h) ?_ ?_
      · intro u4 u6 u10 u11 u12 u13 u14 u80 u81 u82 u83 u84 u85 u86 u87 u88 u89 u90 u91 u92 u93 u94 u95 u96 u97 u98 u99 u100 u101 u102 u103 u104 u105 u106 u107 u108 u109 u110 u111 u112 u113 u114 u115 u116 u117 u118 u119 u120 u121 u122 u123 u124 u125 u126 u127 u128 u129 u130 u131 u132 u133 u134 u135 u136 u137 u138 u139 u140 u141 u142 u143 u144 u145 u146 u147 u148 u149 u150 w4 tab' pile' ks' hfold htab hpile hbel
        have HBW := Lib.hid (HB3.out.trans hbel)
        have HST3 := Lib.hid (HST2.out _ hfold)
        have HINN := Lib.hid (foldTo_inn L hfold (fun q hq => HI.out.inn q (by simp [hq])))
        have HMU : Hid (mu n (tab', pile') < mu n (tab, l ++ [p])) := Lib.hid (Nat.lt_of_le_of_lt (mu_foldTo L hfold) (mu_pop _ _ _ _))
        have HT := Lib.hid htab
        have HP := Lib.hid hpile
        obtain ⟨g', cap', hv6, _⟩ := hpile.form
        clear hfold htab hpile hbel HST2
        subst hv6
        by_cases hnil : pile' = []
        · subst hnil
          have HST4 : Hid (stepW c m (tab, l ++ [p]) = .inr true) := Lib.hid HST3.out
          clear HST3
          go_wp2_with fail
          exact H2.out true HST4.out _ _ _ _ _ _ _ _ _ _ _ _ _ _ _ _ _ _ _ _ _ _ _ _ _ _ _ _ _ _ _ _ _ _ _ _ _ _ _ _ _ _ _ _ _ _ _ _ _ _ _ _ _ _ _ _ _ _ _ _ _ _ _ _ _ _ _ _ _ _ _ _ _ _ _ _ _ _ _ _ _ _ _ _ _ _ _ _ _ _ _ _ _ _ _ _ _ _ _ _ _ _ _ _ _ _ _ _ _ _ _ _ _ _ _ _ _ _ _ _ _ _ _ _ _ w4 HBW.out
        · have HST4 : Hid (stepW c m (tab, l ++ [p]) = .inl (tab', pile')) := Lib.hid (by rw [HST3.out]; simp [hnil])
          have hd := beq_len hnil
          have HNIL := Lib.hid hnil
          clear HST3 hnil
          go_wp2_with fail
          exact H1.out _ _ _ _ _ _ _ _ _ _ _ _ _ _ _ _ _ _ _ _ _ _ _ _ _ _ _ _ _ _ _ _ _ _ _ _ _ _ _ _ _ _ _ _ _ _ _ _ _ _ _ _ _ _ _ _ _ _ _ _ _ _ _ _ _ _ _ _ _ _ _ _ _ _ _ _ _ _ _ _ _ _ _ _ _ _ _ _ _ _ _ _ _ _ _ _ _ _ _ _ _ _ _ _ _ _ _ _ _ _ _ _ _ _ _ _ _ _ _ _ _ _ _ _ _ _ w4 tab' pile' ks' HST4.out ⟨HBW.out, HT.out, HP.out, HNIL.out, HINN.out, Nat.le_trans (Nat.le_of_lt HMU.out) HI.out.muLe⟩ HMU.out
      · intro hfold u6 u10 u11 u12 u13 u14 u80 u81 u82 u83 u84 u85 u86 u87 u88 u89 u90 u91 u92 u93 u94 u95 u96 u97 u98 u99 u100 u101 u102 u103 u104 u105 u106 u107 u108 u109 u110 u111 u112 u113 u114 u115 u116 u117 u118 u119 u120 u121 u122 u123 u124 u125 u126 u127 u128 u129 u130 u131 u132 u133 u134 u135 u136 u137 u138 u139 u140 u141 u142 u143 u144 u145 u146 u147 u148 u149 u150 w4 hbel
        have HST4 : Hid (stepW c m (tab, l ++ [p]) = .inr false) := Lib.hid (HST2.out _ hfold)
        exact H2.out false HST4.out _ _ _ _ _ _ _ _ _ _ _ _ _ _ _ _ _ _ _ _ _ _ _ _ _ _ _ _ _ _ _ _ _ _ _ _ _ _ _ _ _ _ _ _ _ _ _ _ _ _ _ _ _ _ _ _ _ _ _ _ _ _ _ _ _ _ _ _ _ _ _ _ _ _ _ _ _ _ _ _ _ _ _ _ _ _ _ _ _ _ _ _ _ _ _ _ _ _ _ _ _ _ _ _ _ _ _ _ _ _ _ _ _ _ _ _ _ _ _ _ _ _ _ _ _ w4 (HB3.out.trans hbel)
end Go.Proofs.YtmdceokmpjcllaaGreatDoor
