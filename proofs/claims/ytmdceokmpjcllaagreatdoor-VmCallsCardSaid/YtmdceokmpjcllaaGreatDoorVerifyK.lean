/-
  The contract of 'safe', whatever the function, and that of Check.
-/
import Derived.Test.YtmdceokmpjcllaaGreatDoorVerifyJ
import Derived.Maps.OwnOps
import Derived.Maps.Views
namespace Go.Proofs.YtmdceokmpjcllaaGreatDoor
open Go.RowKit Go.Maps
attribute [local go_sem ↓] Go.wp_at_zero Go.wp_at_succ

set_option maxRecDepth 100000 in
set_option maxHeartbeats 4000000 in
theorem safe_zero (c : Cd) (m : Mdl) (v0 v1 v2 v3 v4 vm : Value) (w : World) (hc : RepCd w v0 v1 v2 v3 v4 c) (hm : RepMdl w vm m) (hlen : c.ins.length = 0) :
    Calls Tryz.prog 41 #[vm, .agg #[v0, v1, v2, v3, v4]] w (SafeSays c m w) := by
  obtain ⟨u0, u1, rfl, _, _⟩ := hm
  obtain ⟨n1, n2, n3, n4, n5, n6, n7, n8⟩ := hc
  obtain ⟨s4, cap4, rfl, i1, i2, i3, i4, i5, i6⟩ := n6
  clear n1 n2 n3 n4 n5 n7 n8 i1 i2 i3 i4 i5 i6
  have HL := Lib.hid hlen
  rw [hlen]
  clear hlen
  go_enter Tryz.func41, Tryz.ntmps41
  go_wp2_with fail
  go_step3
  go_wp2_with fail
  (try rw [Exit.noGoto_ret])
  go_ret
  exact ⟨false, rfl, by unfold SafeIs; rw [if_pos HL.out], up_alloc (up_alloc (Below.refl _ _) _) _⟩

theorem safe_any (c : Cd) (m : Mdl) (v0 v1 v2 v3 v4 vm : Value) (w : World) (hc : RepCd w v0 v1 v2 v3 v4 c) (hm : RepMdl w vm m) (hsl : c.slots ≤ 256) (hsg : Signs w) (hp16 : c.params.length ≤ 256) (hn16 : c.ins.length ≤ 16384) :
    Calls Tryz.prog 41 #[vm, .agg #[v0, v1, v2, v3, v4]] w (SafeSays c m w) := by
  by_cases h : c.ins.length = 0
  · exact safe_zero c m v0 v1 v2 v3 v4 vm w hc hm h
  · exact safe_pos c m v0 v1 v2 v3 v4 vm w hc hm hsl hsg (by omega) hp16 hn16

/-! ### Check -/
/-- each function is safe, and has a name of its own -/
def GoodM (m : Mdl) : Prop := (∀ j, j < m.codes.length → SafeIs (m.codes.getD j default) m true) ∧ (m.codes.map (·.name)).Nodup
/-- Check answers x -/
def CheckIs (m : Mdl) (x : Int) : Prop := (rightM m = false ∧ x = 111) ∨ (rightM m = true ∧ ((GoodM m ∧ x = 0) ∨ (¬ GoodM m ∧ x = 131)))

def oneD : DataW Unit := .lit (.int .i64 1)
def namesD (l : List ByteArray) : DataW Unit := l.foldl (fun D s => D.put (.string s.data.toList) oneD) (.map [])
theorem names_fold (l : List ByteArray) : ∀ D : DataW Unit, IsMap D → IsMap (l.foldl (fun D s => D.put (.string s.data.toList) oneD) D) := by
  induction l with
  | nil => intro D h; exact h
  | cons s l ih => intro D h; exact ih _ (h.put _ _)
theorem names_isMap (l : List ByteArray) : IsMap (namesD l) := names_fold l _ ⟨[], rfl⟩
theorem names_snoc (l : List ByteArray) (s : ByteArray) : namesD (l ++ [s]) = (namesD l).put (.string s.data.toList) oneD := by simp [namesD, List.foldl_append]
theorem names_at (l : List ByteArray) (s : ByteArray) : (s ∈ l → (namesD l).atKey (.string s.data.toList) (.lit (.int .i64 0)) = .lit (.int .i64 1)) ∧ (s ∉ l → (namesD l).atKey (.string s.data.toList) (.lit (.int .i64 0)) = .lit (.int .i64 0)) := by
  rw [← List.reverse_reverse l]
  generalize l.reverse = r
  induction r with
  | nil => exact ⟨fun h => by simp at h, fun _ => rfl⟩
  | cons x r ih =>
    rw [List.reverse_cons, names_snoc]
    by_cases e : s = x
    · subst e
      rw [atKey_put_same (names_isMap _) (by first | trivial | exact True.intro | constructor | simp [WideAt.IsKeyLit])]
      exact ⟨fun _ => rfl, fun h => absurd (by simp) h⟩
    · rw [atKey_put_other (by
        intro h
        injection h with h
        exact e (WideShapes.bytes_inj h))]
      exact ⟨fun h => ih.1 (by simpa [e] using h), fun h => ih.2 (fun h' => h (by simp at h' ⊢; exact .inl h'))⟩

theorem keyLaw : Keyed Tryz.prog 9 := string_keyed Tryz.underlying9
theorem zeroInt (w : World) : (zeroValue 3).run Tryz.prog w = .ok (.int .i64 0) w := by kernel_rfl
/-- what holds ahead of each round of Check -/
structure ChkInv (m : Mdl) (w1 W : World) (i : Nat) : Prop where
  map : W.ownsMap Tryz.prog 9 (plainElem Tryz.prog 3) w1.heap.size i (namesD ((m.codes.map (·.name)).take i))
  below : Below w1.heap.size w1 W
  safe : ∀ j, j < i → SafeIs (m.codes.getD j default) m true
  nodup : ((m.codes.map (·.name)).take i).Nodup
theorem ownsMap_below {W W' : World} {b n : Nat} {D : DataW Unit} {k : TypeId} {R : Value → Option (DataW Unit × List MemPlace)} (h : W.ownsMap Tryz.prog k R b n D) (hb : Below W.heap.size W W') : W'.ownsMap Tryz.prog k R b n D := by
  have hlt := h.lt
  obtain ⟨es, clock, h1, r⟩ := h
  exact ⟨es, clock, (hb.block _ hlt).trans h1, r⟩
theorem right_cd {m : Mdl} (h : rightM m = true) {i : Nat} (hi : i < m.codes.length) : (m.codes.getD i default).params.length ≤ 256 ∧ (m.codes.getD i default).slots ≤ 256 ∧ (m.codes.getD i default).ins.length ≤ 16384 := by
  have h2 : rightCd (m.codes.getD i default) = true := by
    simp only [rightM, Bool.and_eq_true] at h
    exact (allB_iff _ _).1 h.2 i hi
  simp only [rightCd, Bool.and_eq_true, decide_eq_true_eq] at h2
  omega
theorem lit_int {a b : Int} (h : (DataW.lit (.int .i64 a) : DataW Unit) = .lit (.int .i64 b)) : a = b := by
  injection h with h
  injection h
theorem names_take {m : Mdl} {i : Nat} (hi : i < m.codes.length) : (m.codes.map (·.name)).take (i + 1) = (m.codes.map (·.name)).take i ++ [(m.codes.getD i default).name] := by
  rw [List.take_add_one, List.getElem?_map, List.getD_eq_getElem?_getD, List.getElem?_eq_getElem hi]
  rfl
theorem mem_take_bad {m : Mdl} {i : Nat} (hi : i < m.codes.length) (h : (m.codes.getD i default).name ∈ (m.codes.map (·.name)).take i) : ¬ GoodM m := fun g => by
  have h1 := g.2
  have h2 : ((m.codes.map (·.name)).take (i + 1)).Nodup := h1.sublist (List.take_sublist _ _)
  rw [names_take hi, List.nodup_append] at h2
  exact h2.2.2 _ h _ (by simp) rfl
theorem nodup_snoc {l : List ByteArray} {s : ByteArray} (h : l.Nodup) (hs : s ∉ l) : (l ++ [s]).Nodup := by
  rw [List.nodup_append]
  exact ⟨h, by simp, fun a ha b hb e => hs (by simp at hb; subst hb; rw [← e]; exact ha)⟩

set_option maxRecDepth 100000 in
set_option maxHeartbeats 8000000 in
theorem check_any (v : Value) (m : Mdl) (w : World) (hm : RepMdl w v m) (hsg : Signs w) :
    Calls Tryz.prog 20 #[v] w fun e w' => ∃ x, e = .returned (.int .i64 x) ∧ CheckIs m x ∧ Below w.heap.size w w' := by
  have HM := Lib.hid hm
  have HG := Lib.hid hsg
  have HR1 := Lib.hid (fun W (hW : Below w.heap.size w W) => right_any (hm.later hW))
  obtain ⟨u0, u1, rfl, hcs, hts⟩ := hm
  obtain ⟨s0, cap, c0, c1, c2, c3, c4, rfl, hbig, hcap, _, _, hrow, hcd⟩ := hcs
  have HROW := Lib.hid hrow
  have HCD := Lib.hid hcd
  clear hsg hts hrow hcd
  cases hr : rightM m
  · rw [hr] at HR1
    have HF : Hid (CheckIs m 111) := Lib.hid (.inl ⟨hr, rfl⟩)
    clear hr
    generalize m.codes.length = n at *
    go_enter Tryz.func20, Tryz.ntmps20
    go_wp2_with fail
    refine (HR1.out _ (up_alloc (Below.refl _ _) _)).mono ?_
    rintro e w1 ⟨rfl, hb1⟩
    have HB := Lib.hid (up_trans (up_alloc (Below.refl w.heap.size w) _) hb1)
    clear hb1
    go_wp2_with fail
    go_ret
    exact ⟨_, rfl, HF.out, HB.out⟩
  · rw [hr] at HR1
    have HRI := Lib.hid hr
    clear hr
    have hmm := @run_makeMap Tryz.prog
    generalize hn : m.codes.length = n at *
    have HN := Lib.hid hn
    clear hn
    go_enter Tryz.func20, Tryz.ntmps20
    go_wp2_with fail
    refine (HR1.out _ (up_alloc (Below.refl _ _) _)).mono ?_
    rintro e w1 ⟨rfl, hb1⟩
    obtain ⟨hc1, hf1, hs1⟩ := bcell hb1
    have q0 : w1.cell? ⟨w.heap.size, 0, none⟩ = some (.slice s0 n cap) := (hc1 _ _ (by rw [size_alloc]; omega)).trans (new_cell _ _ _ _ _ _ rfl rfl)
    have q1 : w1.cell? ⟨w.heap.size, 1, none⟩ = some u1 := (hc1 _ _ (by rw [size_alloc]; omega)).trans (new_cell _ _ _ _ _ _ rfl rfl)
    have HB1 := Lib.hid (up_trans (up_alloc (Below.refl w.heap.size w) _) hb1)
    have hlt1 : w.heap.size < w1.heap.size := by have := hb1.size; rw [size_alloc] at this; omega
    clear hb1 hc1 hf1 hs1
    go_wp2_with fail
    have HSIZE : Hid (m.codes.length = n) := HN
    go_loopg [13] n (fun g s13 W => ∃ i : Nat, i + g = n ∧ s13 = .int .i64 i ∧ ChkInv m w1 W i)
    case atStart => exact ⟨0, by omega, rfl, ⟨World.ownsMap_made _ _ _ _, (Below.refl _ _).alloc (Nat.le_refl _) _, fun j hj => absurd hj (by omega), by simp⟩⟩
    case round =>
      obtain ⟨i, hi, rfl, hinv⟩ := hrel
      have HI := Lib.hid hinv
      have HBW := Lib.hid (HB1.out.trans (hinv.below.mono (by omega)))
      have p0 : wr.cell? ⟨w.heap.size, 0, none⟩ = some (.slice s0 n cap) := (hinv.below.cell (p := ⟨w.heap.size, 0, none⟩) hlt1).trans q0
      have p1 : wr.cell? ⟨w.heap.size, 1, none⟩ = some u1 := (hinv.below.cell (p := ⟨w.heap.size, 1, none⟩) hlt1).trans q1
      clear hinv q0 q1
      cases gk with
      | zero =>
        have he : i = n := by omega
        have hd2 : ¬ ((i : Int) < (n : Int)) := by omega
        have HF : Hid (CheckIs m 0) := Lib.hid (.inr ⟨HRI.out, .inl ⟨⟨fun j hj => HI.out.safe j (by rw [he, ← HN.out]; exact hj), by
          have := HI.out.nodup
          rwa [List.take_of_length_le (by rw [List.length_map, he, HN.out]; exact Nat.le_refl _)] at this⟩, rfl⟩⟩)
        clear he hi
        go_wp2_with fail
        go_ret
        exact ⟨_, rfl, HF.out, HBW.out⟩
      | succ gk =>
        have hin : i < n := by omega
        have hin2 : (i : Int) < (n : Int) := by omega
        have hi0 : (0 : Int) ≤ (i : Int) := by omega
        have g1 : IntKind.i64.wrap ((i : Int) + 1) = (i : Int) + 1 := IntWalk.i64_in _ (by have := hbig; unfold big at this; omega)
        obtain ⟨b, off, hse, hbl, hx⟩ := HROW.out (by omega)
        subst hse
        obtain ⟨x0, x1, x2, x3, x4⟩ := hx i hin
        have hcd := HCD.out i hin
        have hnm := hcd.name
        obtain ⟨sp, cp, e1, _⟩ := hcd.params
        have e2 := hcd.result
        have e3 := hcd.slots
        obtain ⟨si, ci, e4, _⟩ := hcd.ins
        rw [hnm] at x0
        rw [e1] at x1
        rw [e2] at x2
        rw [e3] at x3
        rw [e4] at x4
        have HCC := Lib.hid (fun W (hW : Below w.heap.size w W) => hcd.later hW)
        rw [hnm, e1, e2, e3, e4] at HCC
        have hlen : (m.codes.getD i default).name.size ≤ maxLen := by have := hcd.nameLen; unfold big at this; unfold maxLen; omega
        have HKEY := Lib.hid (Go.WideMaps.keyOf_string_mk (P := Tryz.prog) (k := 9) Tryz.underlying9 hlen)
        have y0 := (up_cell HBW.out _ _ hbl).trans x0
        have y1 := (up_cell HBW.out _ _ hbl).trans x1
        have y2 := (up_cell HBW.out _ _ hbl).trans x2
        have y3 := (up_cell HBW.out _ _ hbl).trans x3
        have y4 := (up_cell HBW.out _ _ hbl).trans x4
        have HRC := Lib.hid (right_cd HRI.out (by rw [HN.out]; exact hin))
        have HSAFE := Lib.hid (fun W (hW : Below w.heap.size w W) => safe_any _ m _ _ _ _ _ _ W (HCC.out W hW) (HM.out.later hW) HRC.out.2.1 (HG.out.below hW) HRC.out.1 HRC.out.2.2)
        have HTAKE := Lib.hid (names_take (m := m) (i := i) (by rw [HN.out]; exact hin))
        have HBAD := Lib.hid (mem_take_bad (m := m) (i := i) (by rw [HN.out]; exact hin))
        have HAT := Lib.hid (names_at ((m.codes.map (·.name)).take i) (m.codes.getD i default).name)
        clear hx x0 x1 x2 x3 x4 hcd hnm hlen hbl e1 e2 e3 e4
        have HMAP := Lib.hid HI.out.map
        have HBAD2 : Hid (SafeIs (m.codes.getD i default) m false → ¬ GoodM m) := Lib.hid (fun hs g => by cases hs.same (g.1 i (by rw [HN.out]; exact hin)))
        have HSAFES : Hid (∀ (_ : Nat) j, j < i + 1 → SafeIs (m.codes.getD i default) m true → SafeIs (m.codes.getD j default) m true) := Lib.hid (fun _ j hj hs => by
          by_cases e : j = i
          · rw [e]; exact hs
          · exact HI.out.safe j (by omega))
        have HND := Lib.hid HI.out.nodup
        generalize m.codes.getD i default = cd at *
        generalize cd.name = nm at *
        generalize (m.codes.map (·.name)).take i = seen at *
        by_cases hmem : nm ∈ seen
        · have hat := HAT.out.1 hmem
          have HL := Lib.hid hat
          have HF : Hid (CheckIs m 131) := Lib.hid (.inr ⟨HRI.out, .inr ⟨HBAD.out hmem, rfl⟩⟩)
          clear hat hmem HBAD
          go_wp2_with (at_lookup; refine wpList_lookup_own_int _ rfl _ _ _ rfl 9 3 .i64 keyLaw Tryz.underlying90 Tryz.underlying3 (zeroInt _) w1.heap.size i _ rfl (HMAP.out.alloc _) _ _ rfl HKEY.out ?_; intro cc hcc _hwf; obtain rfl := lit_int (HL.out.symm.trans hcc); clear hcc _hwf)
          go_ret
          exact ⟨_, rfl, HF.out, up_alloc HBW.out _⟩
        · have hat := HAT.out.2 hmem
          have HL := Lib.hid hat
          have HNM := Lib.hid hmem
          have hsz : i < maxLen := by have := hbig; unfold big at this; unfold maxLen; omega
          have HSZ := Lib.hid hsz
          have p0' : (wr.alloc (.cells #[.string nm, .slice sp cd.params.length cp, .int .i64 cd.result, .int .i64 cd.slots, .slice si cd.ins.length ci] 30)).cell? ⟨w.heap.size, 0, none⟩ = some (.slice (some ⟨b, off, none⟩) n cap) := old_cell _ p0
          have p1' : (wr.alloc (.cells #[.string nm, .slice sp cd.params.length cp, .int .i64 cd.result, .int .i64 cd.slots, .slice si cd.ins.length ci] 30)).cell? ⟨w.heap.size, 1, none⟩ = some u1 := old_cell _ p1
          clear hat hmem HBAD hsz
          go_wp2_with (at_lookup; refine wpList_lookup_own_int _ rfl _ _ _ rfl 9 3 .i64 keyLaw Tryz.underlying90 Tryz.underlying3 (zeroInt _) w1.heap.size i _ rfl (HMAP.out.alloc _) _ _ rfl HKEY.out ?_; intro cc hcc _hwf; obtain rfl := lit_int (HL.out.symm.trans hcc); clear hcc _hwf)
          refine (HSAFE.out _ (up_alloc HBW.out _)).mono ?_
          rintro e w3 ⟨b3, rfl, hsafe, hb3⟩
          have HS3 := Lib.hid hsafe
          have HB3 := Lib.hid (up_trans (up_alloc HBW.out _) hb3)
          have HM3 := Lib.hid (ownsMap_below (HMAP.out.alloc _) hb3)
          have z0 := (hb3.cell (p := ⟨wr.heap.size, 0, none⟩) (by rw [size_alloc]; exact Nat.lt_succ_self _)).trans (new_cell wr _ _ _ 0 _ rfl rfl)
          have HBB := Lib.hid (HI.out.below.trans ((up_alloc (Below.refl _ _) _ |>.trans (hb3.mono (by rw [size_alloc]; exact Nat.le_succ _))).mono HI.out.below.size))
          clear hsafe hb3
          cases b3
          · have HF : Hid (CheckIs m 131) := Lib.hid (.inr ⟨HRI.out, .inr ⟨HBAD2.out HS3.out, rfl⟩⟩)
            go_wp2_with fail
            go_ret
            exact ⟨_, rfl, HF.out, HB3.out⟩
          · go_wp2_with (first | (at_lookup; refine wpList_lookup_own_int _ rfl _ _ _ rfl 9 3 .i64 keyLaw Tryz.underlying90 Tryz.underlying3 (zeroInt _) w1.heap.size i _ rfl HM3.out _ _ rfl HKEY.out ?_; intro cc hcc _hwf; obtain rfl := lit_int (HL.out.symm.trans hcc); clear hcc _hwf) | (at_mapUpdate; refine wpList_mapUpdate_own _ rfl _ _ _ _ rfl 9 3 keyLaw Tryz.underlying90 _ w1.heap.size i _ rfl HM3.out HSZ.out _ _ _ rfl rfl HKEY.out oneD [] (plainElem_int Tryz.underlying3 rfl) ?_; intro w4 hown4 hgrow4; have HO4 := Lib.hid hown4; have HG4 := Lib.hid hgrow4; clear hown4 hgrow4))
            go_roundg gk
            case measure => omega
            case rel => exact ⟨i + 1, by omega, by go_num, ⟨by rw [HTAKE.out, names_snoc]; exact HO4.out, HBB.out.trans ⟨HG4.out.os, HG4.out.tape, HG4.out.output, HG4.out.size, fun k hk => HG4.out.block k (Nat.lt_of_lt_of_le hk HBB.out.size) (fun e => by injection e with e; omega)⟩, fun j hj => HSAFES.out b j hj HS3.out, by rw [HTAKE.out]; exact nodup_snoc HND.out HNM.out⟩⟩
end Go.Proofs.YtmdceokmpjcllaaGreatDoor
