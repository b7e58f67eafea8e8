/-
  The walk of VmCalls.
-/
import Derived.Test.YtmdceokmpjcllaaGreatDoorVmH
import Derived.Test.YtmdceokmpjcllaaGreatDoorVmG
import Derived.Laws.IdiomStrings
namespace Go.Proofs.YtmdceokmpjcllaaGreatDoor
open Go.RowKit
attribute [local go_sem ↓] Go.wp_at_zero Go.wp_at_succ

theorem infoCode : ∃ i, Tryz.prog.info? 30 = some i ∧ i.zero = some (.agg #[.string ⟨#[]⟩, .slice none 0 0, .int .i64 0, .int .i64 0, .slice none 0 0]) ∧ i.size = 5 ∧ i.bytes = 80 := by
  have h : (Tryz.prog.info? 30).map (fun i => (i.zero, i.size, i.bytes)) = some (some (.agg #[.string ⟨#[]⟩, .slice none 0 0, .int .i64 0, .int .i64 0, .slice none 0 0]), 5, 80) := by kernel_rfl
  obtain ⟨i, h1, h2⟩ := Option.map_eq_some_iff.1 h
  simp only [Prod.mk.injEq] at h2
  exact ⟨i, h1, h2.1, h2.2.1, h2.2.2⟩
def fiveC (g : Nat → Nat) (k j : Nat) : List Value := [.string (nmK j), .slice none 0 0, .int .i64 1, .int .i64 0, .slice (some ⟨g j, 0, none⟩) (insK k j).length (insK k j).length]
def rowC (g : Nat → Nat) (k : Nat) : Nat → List Value
  | 0 => []
  | i + 1 => rowC g k i ++ fiveC g k i
theorem rowC_len (g : Nat → Nat) (k i : Nat) : (rowC g k i).length = i * 5 := by
  induction i with
  | zero => rfl
  | succ i ih => rw [rowC, List.length_append, ih]; show i * 5 + 5 = _; omega
theorem rowC_at (g : Nat → Nat) (k : Nat) : ∀ (i j c : Nat), j < i → c < 5 → (rowC g k i)[j * 5 + c]? = (fiveC g k j)[c]?
  | 0, j, c, h, _ => by omega
  | i + 1, j, c, h, hc => by
    rw [rowC]
    by_cases e : j = i
    · subst e
      rw [List.getElem?_append_right (by rw [rowC_len]; omega), rowC_len]
      congr 1
      omega
    · rw [List.getElem?_append_left (by rw [rowC_len]; omega)]
      exact rowC_at g k i j c (by omega) hc
theorem rowC_same (g g' : Nat → Nat) (k i : Nat) (h : ∀ j, j < i → g j = g' j) : rowC g k i = rowC g' k i := by
  induction i with
  | zero => rfl
  | succ i ih => rw [rowC, rowC, ih fun j hj => h j (by omega), fiveC, fiveC, h i (by omega)]
/-- the module as it grows -/
structure CInv (w1 : World) (k i : Nat) (g : Nat → Nat) (v : Value) (W : World) : Prop where
  below : Below w1.heap.size w1 W
  obj : ∃ arr, W.heap[w1.heap.size]? = some (.cells arr 43 (0, 0))
  c0 : W.cell? ⟨w1.heap.size, 0, none⟩ = some v
  c1 : W.cell? ⟨w1.heap.size, 1, none⟩ = some (.slice none 0 0)
  own : W.ownsRow (w1.heap.size + 1) 30 5 v i (rowC g k i)
  ins : ∀ j, j < i → W.heap[g j]? = some (.cells (insV (insK k j)).toArray 25 (0, 0))
theorem CInv.lt {w1 W : World} {k i : Nat} {g : Nat → Nat} {v : Value} (h : CInv w1 k i g v W) : w1.heap.size < W.heap.size := lt_of_cell h.c0
theorem CInv.fz {w1 W : World} {k i : Nat} {g : Nat → Nat} {v : Value} (h : CInv w1 k i g v W) (j : Nat) : W.frozen? ⟨w1.heap.size, j, none⟩ = false := by
  obtain ⟨a, h⟩ := h.obj
  exact frozen_of h j
theorem CInv.later {w1 W W' : World} {k i : Nat} {g : Nat → Nat} {v : Value} (h : CInv w1 k i g v W) (hb : Below W.heap.size W W') : CInv w1 k i g v W' := by
  obtain ⟨a, ho⟩ := h.obj
  exact ⟨h.below.trans (hb.mono (Nat.le_of_lt h.lt)), ⟨a, (hb.block _ h.lt).trans ho⟩, (hb.cell (p := ⟨_, 0, none⟩) h.lt).trans h.c0, (hb.cell (p := ⟨_, 1, none⟩) h.lt).trans h.c1, own_later h.own hb, fun j hj => (hb.block _ (lt_of_block (h.ins j hj))).trans (h.ins j hj)⟩
/-- one more -/
theorem CInv.push {w1 W W9 : World} {k i S cp gb : Nat} {g : Nat → Nat} {v : Value} (h : CInv w1 k i g v W) (hS : W.heap[S]? = some (.cells (insV (insK k i)).toArray 25 (0, 0)))
    (ho : W9.ownsRow (w1.heap.size + 1) 30 5 (.slice (some ⟨gb, 0, none⟩) (i + 1) cp) (i + 1) (rowC g k i ++ fiveC (fun _ => S) k i)) (hg : World.grownBy W W9 v.ownBlock) :
    CInv w1 k (i + 1) (fun j => if j = i then S else g j) (.slice (some ⟨gb, 0, none⟩) (i + 1) cp) (W9.setCell ⟨w1.heap.size, 0, none⟩ (.slice (some ⟨gb, 0, none⟩) (i + 1) cp)) := by
  obtain ⟨a, hob⟩ := h.obj
  have hty : OfTy W w1.heap.size 43 := ⟨a, _, hob⟩
  have hne : some w1.heap.size ≠ v.ownBlock := fun e => (own_ty h.own e.symm).ne hty (by decide) rfl
  have hM := hg.block _ h.lt hne
  have hc : ∀ j, W9.cell? ⟨w1.heap.size, j, none⟩ = W.cell? ⟨w1.heap.size, j, none⟩ := fun j => World.cell?_of_block (w := W) hM
  have hi : ∀ (x : Nat) (arr : Array Value), W.heap[x]? = some (Obj.cells arr 25 (0, 0)) → (W9.setCell ⟨w1.heap.size, 0, none⟩ (.slice (some ⟨gb, 0, none⟩) (i + 1) cp)).heap[x]? = some (Obj.cells arr 25 (0, 0)) := fun x arr hx => by
    have hxt : OfTy W x 25 := ⟨_, _, hx⟩
    rw [setCell_heap W9 _ _ x (hxt.ne hty (by decide)), hg.block x (lt_of_block hx) (fun e => (own_ty h.own e.symm).ne hxt (by decide) rfl)]
    exact hx
  have hob9 : W9.heap[w1.heap.size]? = some (.cells a 43 (0, 0)) := hM.trans hob
  refine ⟨?_, obj_setC ⟨a, hob9⟩, cell_set_eq _ ((hc 0).trans h.c0), ?_, ?_, fun j hj => ?_⟩
  · have q : Below w1.heap.size w1 W9 := h.below.trans ⟨hg.os, hg.tape, hg.output, hg.size, fun x hx => hg.block x (Nat.lt_trans hx h.lt) (fun e => by have := (h.own.lt x e.symm).1; omega)⟩
    exact q.setCell (p := ⟨w1.heap.size, 0, none⟩) (Nat.le_refl _) _
  · rw [cell_set_ne _ _ (.inr (by omega)), hc]
    exact h.c1
  · have e : rowC (fun j => if j = i then S else g j) k (i + 1) = rowC g k i ++ fiveC (fun _ => S) k i := by
      rw [rowC]
      congr 1
      · exact rowC_same _ _ _ _ fun j hj => by rw [if_neg (by omega)]
      · simp [fiveC]
    rw [e]
    have hty9 : OfTy W9 w1.heap.size 43 := ⟨a, _, hob9⟩
    exact own_same ho fun x hx => setCell_heap W9 _ _ x ((own_ty ho hx).ne hty9 (by decide))
  · by_cases e : j = i
    · rw [if_pos e, e]
      exact hi S _ hS
    · rw [if_neg e]
      exact hi _ _ (h.ins j (by omega))
theorem name_conv (i : Nat) (hi : i < 40) (W : World) (b : Nat) (h : W.cell? ⟨b, 0, none⟩ = some (.int .u8 (65 + (i : Int)))) : (convert 33 9 (.slice (some ⟨b, 0, none⟩) 1 1)).run Tryz.prog W = .ok (.string (nmK i)) W := by
  refine run_convert_bytes_back W 33 9 5 ⟨b, 0, none⟩ 1 [UInt8.ofNat (65 + i)] Tryz.underlying33 Tryz.underlying5 Tryz.underlying9 (fun j hj => ?_)
  obtain rfl : j = 0 := by simpa using hj
  rw [Go.WideShapes.add_plain, Nat.zero_add, h]
  have e : (UInt8.ofNat (65 + i)).toNat = 65 + i := by rw [UInt8.toNat_ofNat']; omega
  show some (Value.int .u8 (65 + (i : Int))) = some (Value.int .u8 (((UInt8.ofNat (65 + i)).toNat : Nat) : Int))
  rw [e]
  congr 2
theorem CInv.cells {w1 W : World} {k gb cap : Nat} {g : Nat → Nat} (h : CInv w1 k k g (.slice (some ⟨gb, 0, none⟩) k cap) W) (j c : Nat) (hj : j < k) (hc : c < 5) (u : Value) (hu : (fiveC g k j)[c]? = some u) : W.cell? ⟨gb, j * 5 + c, none⟩ = some u := by
  have := h.own.cells (g := gb) rfl (j * 5 + c) u (by rw [rowC_at g k k j c hj hc]; exact hu)
  rw [Go.WideShapes.add_plain, Nat.zero_add] at this
  exact this
theorem CInv.rep {w1 W : World} {k gb cap : Nat} {g : Nat → Nat} (h : CInv w1 k k g (.slice (some ⟨gb, 0, none⟩) k cap) W) (hk : k ≤ 40) (j : Nat) (hj : j < k) : RepIns W (.slice (some ⟨g j, 0, none⟩) (insK k j).length (insK k j).length) (insK k j) := by
  have hl := insK_len k j
  refine ins_heap (h.ins j hj) rfl hl.2 (by omega) (fun x hx => ?_)
  unfold insK at hx
  split at hx
  · simp at hx
    rcases hx with rfl | rfl <;> exact ⟨by constructor <;> (dsimp only; decide), by constructor <;> (dsimp only; decide)⟩
  · simp at hx
    rcases hx with rfl | rfl | rfl | rfl
    · exact ⟨by constructor <;> (dsimp only; decide), by constructor <;> (dsimp only; omega)⟩
    all_goals exact ⟨by constructor <;> (dsimp only; decide), by constructor <;> (dsimp only; decide)⟩
theorem CInv.laid {w1 W : World} {k gb cap : Nat} {g : Nat → Nat} (h : CInv w1 k k g (.slice (some ⟨gb, 0, none⟩) k cap) W) (hk0 : 0 < k) (hk : k ≤ 40) : LaidK W W.heap.size g gb cap k :=
  ⟨h.rep hk, fun j hj => ⟨h.cells j 0 hj (by decide) _ rfl, h.cells j 1 hj (by decide) _ rfl, h.cells j 2 hj (by decide) _ rfl, h.cells j 3 hj (by decide) _ rfl, h.cells j 4 hj (by decide) _ rfl⟩, lt_of_cell (h.cells 0 0 hk0 (by decide) _ rfl), fun j hj => lt_of_block (h.ins j hj)⟩
theorem LaidK.later {W W' : World} {base base' gb cap k : Nat} {g : Nat → Nat} (h : LaidK W base g gb cap k) (hb : Below W.heap.size W W') (hbb : base ≤ base') : LaidK W' base' g gb cap k :=
  ⟨fun j hj => (h.ins j hj).later hb, fun j hj => (h.cd j hj).up hb (lt_of_cell (h.cd j hj).c0), Nat.lt_of_lt_of_le h.gb hbb, fun j hj => Nat.lt_of_lt_of_le (h.g j hj) hbb⟩
theorem CInv.mdl {w1 W : World} {k gb cap : Nat} {g : Nat → Nat} (h : CInv w1 k k g (.slice (some ⟨gb, 0, none⟩) k cap) W) (hk0 : 0 < k) (hk : k ≤ 40) : RepMdl W (.agg #[.slice (some ⟨gb, 0, none⟩) k cap, .slice none 0 0]) (mK k) := by
  have hcap : k ≤ cap ∧ cap ≤ maxLen := by
    rcases h.own.2 with ⟨q, _⟩ | ⟨g', cap', cur, q1, q2, q3, q4, q5, q6, q7⟩
    · cases q
    · injection q1 with _ _ a3
      subst a3
      exact ⟨q4, q5⟩
  unfold maxLen at hcap
  refine ⟨_, _, rfl, ⟨some ⟨gb, 0, none⟩, cap, fun j => .string (nmK j), fun _ => .slice none 0 0, fun _ => .int .i64 1, fun _ => .int .i64 0, fun j => .slice (some ⟨g j, 0, none⟩) (insK k j).length (insK k j).length, by rw [mK_len], by rw [mK_len]; unfold big; omega, by rw [mK_len]; exact hcap.1, by unfold capOk; omega, fun e => (by cases e), fun _ => ⟨gb, 0, rfl, lt_of_cell (h.cells 0 0 hk0 (by decide) _ rfl), fun j hj => ?_⟩, fun j hj => ?_⟩, texts_nil _⟩
  · rw [mK_len] at hj
    rw [Nat.zero_add]
    exact ⟨h.cells j 0 hj (by decide) _ rfl, h.cells j 1 hj (by decide) _ rfl, h.cells j 2 hj (by decide) _ rfl, h.cells j 3 hj (by decide) _ rfl, h.cells j 4 hj (by decide) _ rfl⟩
  · rw [mK_len] at hj
    rw [mK_at k j hj]
    exact ⟨rfl, (by unfold big; show (1 : Nat) ≤ _; omega), tys_nil _, rfl, rfl, h.rep hk j hj, (show i64 1 by constructor <;> decide), (show i64 0 by constructor <;> decide)⟩
def outK (k : Nat) : Value := if k ≤ 16 then .agg #[.int .i64 1, .int .i64 (6 + (k : Int)), .slice none 0 0, .int .i64 0, .int .i64 0] else .agg #[.int .i64 0, .int .i64 0, .slice none 0 0, .int .i64 4, .int .i64 0]
theorem outQK {k : Nat} {t : Int} {s : Mac} (h : QK k t s) : outV t s = outK k := by
  obtain ⟨hU, ⟨h1, rfl, h2, h3, h4⟩ | ⟨h1, rfl⟩⟩ := h
  · rw [outV, if_pos rfl, outK, if_pos h1, h2, h3, h4, hU]
  · rw [outV, if_neg (by decide), outK, if_neg (by omega), hU]
theorem run_calls (k gb cap jb : Nat) (g : Nat → Nat) (w1 w : World) (hk0 : 0 < k) (hk : k ≤ 40) (h : CInv w1 k k g (.slice (some ⟨gb, 0, none⟩) k cap) w) (hsg : Signs w) (hj : w.cell? ⟨jb, 1, none⟩ = some (.slice none 0 0)) :
    Calls Tryz.prog 10 #[.agg #[.slice (some ⟨gb, 0, none⟩) k cap, .slice none 0 0], .string ⟨#[65]⟩, .slice none 0 0, .pointer (some ⟨jb, 0, none⟩), .int .i64 10] w fun e w' => e = .returned (outK k) ∧ Below w.heap.size w w' := by
  have hl := h.laid hk0 hk
  refine (run_rule gb 0 k cap none 0 0 (mK k) ⟨#[65]⟩ none 0 1 (some ⟨g 0, 0, none⟩) (insK k 0).length (insK k 0).length jb 10 w (h.mdl hk0 hk) (goodK k hk0 hk) hsg hk0 (hl.cd 0 hk0) hj (by constructor <;> decide) (QK k) (fun base W0 X f v W hle hb0 hb hm hbg => ?_) (fun s' hq => ?_)).mono ?_
  · have hs0 := hsg.below hb0
    exact calls_run W0 base X gb cap k g hk0 hk (hl.later hb0 hle) hs0 (Nat.lt_of_lt_of_le (lt_of_cell (hsg 0 (by decide))) hle) W hb _ hm ⟨rfl, rfl, rfl⟩ rfl f rfl ⟨hbg.c4, hbg.c2, hbg.pc, hbg.st⟩ hbg.stack
  · obtain ⟨_, ⟨_, _, h2, h3, h4⟩ | ⟨_, e⟩⟩ := hq
    · exact ⟨1, 6 + k, none, 0, 0, h2, h3, h4⟩
    · cases e
  · rintro e w' ⟨hb, t, s', hq, rfl⟩
    exact ⟨by rw [outQK hq], hb⟩
theorem grown_c0 {w1 W W9 : World} {k i : Nat} {g : Nat → Nat} {v v' : Value} (h : CInv w1 k i g v W) (hg : World.grownBy W W9 v'.ownBlock) (hv : v = v') : W9.cell? ⟨w1.heap.size, 0, none⟩ = some v' := by
  subst hv
  obtain ⟨a, hob⟩ := h.obj
  have hty : OfTy W w1.heap.size 43 := ⟨a, _, hob⟩
  have hM := hg.block _ h.lt (fun e => (own_ty h.own e.symm).ne hty (by decide) rfl)
  exact (World.cell?_of_block (w := W) hM).trans h.c0
theorem grown_fz {w1 W W9 : World} {k i : Nat} {g : Nat → Nat} {v v' : Value} (h : CInv w1 k i g v W) (hg : World.grownBy W W9 v'.ownBlock) (hv : v = v') : W9.frozen? ⟨w1.heap.size, 0, none⟩ = false := by
  subst hv
  obtain ⟨a, hob⟩ := h.obj
  have hty : OfTy W w1.heap.size 43 := ⟨a, _, hob⟩
  have hM := hg.block _ h.lt (fun e => (own_ty h.own e.symm).ne hty (by decide) rfl)
  exact frozen_of (hM.trans hob) 0
set_option maxRecDepth 100000 in
set_option maxHeartbeats 8000000 in
theorem calls_any (n : Nat) (hn : n ≤ 255) (w : World) (hsg : Signs w) : Calls Tryz.prog 4 #[.int .u8 (n : Int)] w fun e w' => e = .returned (.bool true) ∧ Below w.heap.size w w' := by
  have HH := Lib.hid (head14 w hsg)
  have HSG := Lib.hid hsg
  have HZ := Lib.hid infoCode
  have hek : (1 + (n : Int) % 40) = ((1 + n % 40 : Nat) : Int) := by omega
  have hk0 : 0 < 1 + n % 40 := by omega
  have hk40 : 1 + n % 40 ≤ 40 := by omega
  have e1 : IntKind.u8.wrap ((n : Int) % 40) = (n : Int) % 40 := IntWalk.u8_in _ (by omega)
  have e2 : IntKind.i64.wrap ((n : Int) % 40) = (n : Int) % 40 := IntWalk.i64_in _ (by omega)
  have e3 : IntKind.i64.wrap (1 + (n : Int) % 40) = 1 + (n : Int) % 40 := IntWalk.i64_in _ (by omega)
  have HK := Lib.hid hek
  clear hsg hek
  go_enter Tryz.func4, Tryz.ntmps4
  go_wp2_with fail
  refine HH.out.mono ?_
  rintro e w1 ⟨rfl, hb1⟩
  have HB1 := Lib.hid hb1
  have HS1 := Lib.hid (HSG.out.below hb1)
  clear hb1
  go_upto_region 5 with fail
  rw [HK.out]
  generalize hk : 1 + n % 40 = k at *
  clear e1 e2 e3
  have HK0 := Lib.hid hk0
  have HK40 := Lib.hid hk40
  clear HK hk hk0 hk40
  go_loopg [6] k (fun q s6 W => ∃ (i : Nat) (g : Nat → Nat) (v : Value), i + q = k ∧ s6 = .int .i64 (i : Int) ∧ CInv w1 k i g v W)
  case atStart => exact ⟨0, fun _ => 0, .slice none 0 0, by omega, rfl, (Below.refl _ _).alloc (Nat.le_refl _) _, ⟨_, new_heap _ _ _ rfl⟩, new_cell _ _ _ _ _ _ rfl rfl, new_cell _ _ _ _ _ _ rfl rfl, World.ownsRow_nil _ _ _ _, fun j hj => by omega⟩
  case round =>
    obtain ⟨i, g, v, hiq, rfl, hinv⟩ := hrel
    have HINV := Lib.hid hinv
    clear hinv
    by_cases hik : i < k
    · have g1 : (i : Int) < (k : Int) := by omega
      have g2 : IntKind.i64.wrap (65 + (i : Int)) = 65 + (i : Int) := IntWalk.i64_in _ (by have := HK40.out; omega)
      have g3 : IntKind.u8.wrap (65 + (i : Int)) = 65 + (i : Int) := IntWalk.u8_in _ (by have := HK40.out; omega)
      have g4 : IntKind.i64.wrap ((k : Int) - 1) = (k : Int) - 1 := IntWalk.i64_in _ (by have := HK40.out; omega)
      have g5 := fun W b h => name_conv i (by have := HK40.out; omega) W b h
      go_upto_region 8 with fail
      by_cases hl : i + 1 = k
      · have g6 : ((i : Int) == (k : Int) - 1) = true := by simp; omega
        have g7 : IntKind.i64.wrap ((i : Int) + 1) = (i : Int) + 1 := IntWalk.i64_in _ (by have := HK40.out; omega)
        have HINSL := Lib.hid (show insK k i = [⟨2, 7⟩, ⟨18, 0⟩] by unfold insK; rw [if_pos hl])
        clear hl
        have HINS : Hid ((insV (insK k i)).toArray = #[.int .i64 2, .int .i64 7, .int .i64 18, .int .i64 0]) := Lib.hid (by rw [HINSL.out]; rfl)
        go_upto_region 11 with fail
        have hb : Below wr.heap.size wr (((wr.alloc (.cells #[.int .u8 (65 + (i : Int))] 5)).alloc (.cells #[.string (nmK i), .slice none 0 0, .int .i64 1, .int .i64 0, .slice (some ⟨wr.heap.size + 1 + 1, 0, none⟩) 2 2] 30)).alloc (.cells #[.int .i64 2, .int .i64 7, .int .i64 18, .int .i64 0] 25)) := up_alloc (up_alloc (up_alloc (Below.refl _ _) _) _) _
        have hi2 : (((wr.alloc (.cells #[.int .u8 (65 + (i : Int))] 5)).alloc (.cells #[.string (nmK i), .slice none 0 0, .int .i64 1, .int .i64 0, .slice (some ⟨wr.heap.size + 1 + 1, 0, none⟩) 2 2] 30)).alloc (.cells #[.int .i64 2, .int .i64 7, .int .i64 18, .int .i64 0] 25)).heap[wr.heap.size + 1 + 1]? = some (.cells (insV (insK k i)).toArray 25 (0, 0)) := by
          rw [HINS.out]
          exact new_heap _ _ _ (by simp only [size_alloc])
        have hbx : (((wr.alloc (.cells #[.int .u8 (65 + (i : Int))] 5)).alloc (.cells #[.string (nmK i), .slice none 0 0, .int .i64 1, .int .i64 0, .slice (some ⟨wr.heap.size + 1 + 1, 0, none⟩) 2 2] 30)).alloc (.cells #[.int .i64 2, .int .i64 7, .int .i64 18, .int .i64 0] 25)).heap[wr.heap.size + 1]? = _ := old_heap _ _ _ _ (new_heap _ _ _ (size_alloc _ _))
        have b0 := cell_of' hbx 0 (u := .string (nmK i)) rfl
        have b1 := cell_of' hbx 1 (u := .slice none 0 0) rfl
        have b2 := cell_of' hbx 2 (u := .int .i64 1) rfl
        have b3 := cell_of' hbx 3 (u := .int .i64 0) rfl
        have b4 := cell_of' hbx 4 (u := .slice (some ⟨wr.heap.size + 1 + 1, 0, none⟩) 2 2) rfl
        have HI2 := Lib.hid hi2
        have HIA := Lib.hid (HINV.out.later hb)
        generalize (((wr.alloc (.cells #[.int .u8 (65 + (i : Int))] 5)).alloc (.cells #[.string (nmK i), .slice none 0 0, .int .i64 1, .int .i64 0, .slice (some ⟨wr.heap.size + 1 + 1, 0, none⟩) 2 2] 30)).alloc (.cells #[.int .i64 2, .int .i64 7, .int .i64 18, .int .i64 0] 25)) = wA at *
        clear hb hi2 hbx
        have m0 := HIA.out.c0
        have HLI : Hid ((insK k i).length = 2) := Lib.hid (by rw [HINSL.out]; rfl)
        generalize wr.heap.size + 1 + 1 = S at *
        obtain ⟨pp, cc, hvv⟩ := own_slice HIA.out.own
        have HVV := Lib.hid hvv
        rw [hvv] at m0
        clear hvv
        go_wp2_with (refine wpList_append_lies _ rfl _ _ _ rfl (w1.heap.size + 1) 30 HZ.out.choose (.agg #[.string ⟨#[]⟩, .slice none 0 0, .int .i64 0, .int .i64 0, .slice none 0 0]) 5 80 Tryz.underlying40 HZ.out.choose_spec.1 HZ.out.choose_spec.2.1 HZ.out.choose_spec.2.2.1 HZ.out.choose_spec.2.2.2 rfl (by decide) _ i (rowC g k i) rfl (by rw [← HVV.out]; exact own_later HIA.out.own (up_alloc (Below.refl wA.heap.size wA) (.cells #[.string (nmK i), .slice none 0 0, .int .i64 1, .int .i64 0, .slice (some ⟨S, 0, none⟩) 2 2] 30))) ⟨wA.heap.size, 0, none⟩ 1 1 [.string (nmK i), .slice none 0 0, .int .i64 1, .int .i64 0, .slice (some ⟨S, 0, none⟩) 2 2] rfl rfl (by intro j u hj; rw [Go.WideShapes.add_plain, Nat.zero_add]; exact new_cell _ _ _ _ _ _ rfl (by simpa using hj)) (by intro u hu; simp at hu; rcases hu with rfl | rfl | rfl | rfl | rfl <;> rfl) (by decide) (by have := HK40.out; unfold maxLen; omega) (by have := HK40.out; omega) (by rw [size_alloc]; have := HIA.out.lt; omega) _ rfl ?_; intro g9 cp9 w9 hown9 hgrow9 hgl9 hlt9; have HIB := Lib.hid (HIA.out.later (up_alloc (Below.refl wA.heap.size wA) (.cells #[.string (nmK i), .slice none 0 0, .int .i64 1, .int .i64 0, .slice (some ⟨S, 0, none⟩) 2 2] 30))); have HIC := Lib.hid (HIB.out.push (S := S) (old_heap _ _ _ _ HI2.out) (by unfold fiveC; rw [HLI.out]; exact hown9) (by rw [HVV.out]; exact hgrow9)); have fz9 := grown_fz HIB.out hgrow9 HVV.out; have m9 := grown_c0 HIB.out hgrow9 HVV.out; clear hown9 hgrow9 hgl9 hlt9)
        go_roundg (k - i - 1)
        case measure => omega
        case rel => exact ⟨i + 1, _, _, by omega, rfl, HIC.out⟩
      · have g6 : ((i : Int) == (k : Int) - 1) = false := by simp; omega
        have g7 : IntKind.i64.wrap ((i : Int) + 1) = (i : Int) + 1 := IntWalk.i64_in _ (by have := HK40.out; omega)
        have HINSL := Lib.hid (show insK k i = [⟨14, (i : Int) + 1⟩, ⟨2, 1⟩, ⟨7, 1⟩, ⟨18, 0⟩] by unfold insK; rw [if_neg hl]; rfl)
        clear hl
        have HINS : Hid ((insV (insK k i)).toArray = #[.int .i64 14, .int .i64 ((i : Int) + 1), .int .i64 2, .int .i64 1, .int .i64 7, .int .i64 1, .int .i64 18, .int .i64 0]) := Lib.hid (by rw [HINSL.out]; rfl)
        go_upto_region 11 with fail
        have hb : Below wr.heap.size wr (((wr.alloc (.cells #[.int .u8 (65 + (i : Int))] 5)).alloc (.cells #[.string (nmK i), .slice none 0 0, .int .i64 1, .int .i64 0, .slice (some ⟨wr.heap.size + 1 + 1, 0, none⟩) 4 4] 30)).alloc (.cells #[.int .i64 14, .int .i64 ((i : Int) + 1), .int .i64 2, .int .i64 1, .int .i64 7, .int .i64 1, .int .i64 18, .int .i64 0] 25)) := up_alloc (up_alloc (up_alloc (Below.refl _ _) _) _) _
        have hi2 : (((wr.alloc (.cells #[.int .u8 (65 + (i : Int))] 5)).alloc (.cells #[.string (nmK i), .slice none 0 0, .int .i64 1, .int .i64 0, .slice (some ⟨wr.heap.size + 1 + 1, 0, none⟩) 4 4] 30)).alloc (.cells #[.int .i64 14, .int .i64 ((i : Int) + 1), .int .i64 2, .int .i64 1, .int .i64 7, .int .i64 1, .int .i64 18, .int .i64 0] 25)).heap[wr.heap.size + 1 + 1]? = some (.cells (insV (insK k i)).toArray 25 (0, 0)) := by
          rw [HINS.out]
          exact new_heap _ _ _ (by simp only [size_alloc])
        have hbx : (((wr.alloc (.cells #[.int .u8 (65 + (i : Int))] 5)).alloc (.cells #[.string (nmK i), .slice none 0 0, .int .i64 1, .int .i64 0, .slice (some ⟨wr.heap.size + 1 + 1, 0, none⟩) 4 4] 30)).alloc (.cells #[.int .i64 14, .int .i64 ((i : Int) + 1), .int .i64 2, .int .i64 1, .int .i64 7, .int .i64 1, .int .i64 18, .int .i64 0] 25)).heap[wr.heap.size + 1]? = _ := old_heap _ _ _ _ (new_heap _ _ _ (size_alloc _ _))
        have b0 := cell_of' hbx 0 (u := .string (nmK i)) rfl
        have b1 := cell_of' hbx 1 (u := .slice none 0 0) rfl
        have b2 := cell_of' hbx 2 (u := .int .i64 1) rfl
        have b3 := cell_of' hbx 3 (u := .int .i64 0) rfl
        have b4 := cell_of' hbx 4 (u := .slice (some ⟨wr.heap.size + 1 + 1, 0, none⟩) 4 4) rfl
        have HI2 := Lib.hid hi2
        have HIA := Lib.hid (HINV.out.later hb)
        generalize (((wr.alloc (.cells #[.int .u8 (65 + (i : Int))] 5)).alloc (.cells #[.string (nmK i), .slice none 0 0, .int .i64 1, .int .i64 0, .slice (some ⟨wr.heap.size + 1 + 1, 0, none⟩) 4 4] 30)).alloc (.cells #[.int .i64 14, .int .i64 ((i : Int) + 1), .int .i64 2, .int .i64 1, .int .i64 7, .int .i64 1, .int .i64 18, .int .i64 0] 25)) = wA at *
        clear hb hi2 hbx
        have m0 := HIA.out.c0
        have HLI : Hid ((insK k i).length = 4) := Lib.hid (by rw [HINSL.out]; rfl)
        generalize wr.heap.size + 1 + 1 = S at *
        obtain ⟨pp, cc, hvv⟩ := own_slice HIA.out.own
        have HVV := Lib.hid hvv
        rw [hvv] at m0
        clear hvv
        go_wp2_with (refine wpList_append_lies _ rfl _ _ _ rfl (w1.heap.size + 1) 30 HZ.out.choose (.agg #[.string ⟨#[]⟩, .slice none 0 0, .int .i64 0, .int .i64 0, .slice none 0 0]) 5 80 Tryz.underlying40 HZ.out.choose_spec.1 HZ.out.choose_spec.2.1 HZ.out.choose_spec.2.2.1 HZ.out.choose_spec.2.2.2 rfl (by decide) _ i (rowC g k i) rfl (by rw [← HVV.out]; exact own_later HIA.out.own (up_alloc (Below.refl wA.heap.size wA) (.cells #[.string (nmK i), .slice none 0 0, .int .i64 1, .int .i64 0, .slice (some ⟨S, 0, none⟩) 4 4] 30))) ⟨wA.heap.size, 0, none⟩ 1 1 [.string (nmK i), .slice none 0 0, .int .i64 1, .int .i64 0, .slice (some ⟨S, 0, none⟩) 4 4] rfl rfl (by intro j u hj; rw [Go.WideShapes.add_plain, Nat.zero_add]; exact new_cell _ _ _ _ _ _ rfl (by simpa using hj)) (by intro u hu; simp at hu; rcases hu with rfl | rfl | rfl | rfl | rfl <;> rfl) (by decide) (by have := HK40.out; unfold maxLen; omega) (by have := HK40.out; omega) (by rw [size_alloc]; have := HIA.out.lt; omega) _ rfl ?_; intro g9 cp9 w9 hown9 hgrow9 hgl9 hlt9; have HIB := Lib.hid (HIA.out.later (up_alloc (Below.refl wA.heap.size wA) (.cells #[.string (nmK i), .slice none 0 0, .int .i64 1, .int .i64 0, .slice (some ⟨S, 0, none⟩) 4 4] 30))); have HIC := Lib.hid (HIB.out.push (S := S) (old_heap _ _ _ _ HI2.out) (by unfold fiveC; rw [HLI.out]; exact hown9) (by rw [HVV.out]; exact hgrow9)); have fz9 := grown_fz HIB.out hgrow9 HVV.out; have m9 := grown_c0 HIB.out hgrow9 HVV.out; clear hown9 hgrow9 hgl9 hlt9)
        go_roundg (k - i - 1)
        case measure => omega
        case rel => exact ⟨i + 1, _, _, by omega, rfl, HIC.out⟩
    · obtain rfl : i = k := by omega
      go_wp2_with fail
      refine (new_nil _).mono ?_
      rintro e w2 ⟨rfl, hw2⟩
      have hb2 : Below wr.heap.size wr w2 := by rw [hw2]; exact up_alloc (Below.refl _ _) _
      have j2 : w2.cell? ⟨wr.heap.size, 1, none⟩ = some (.slice none 0 0) := by rw [hw2]; exact new_cell _ _ _ _ 1 _ rfl rfl
      have HI2 := Lib.hid (HINV.out.later hb2)
      have HB2 := Lib.hid (HB1.out.trans (HI2.out.below.mono HB1.out.size))
      obtain ⟨gb, cap, hv, _, _⟩ := HI2.out.own.form HK0.out
      have m0 := HI2.out.c0
      have m1 := HI2.out.c1
      rw [hv] at m0
      have HR := Lib.hid (run_calls i gb cap wr.heap.size g w1 w2 HK0.out HK40.out (by rw [← hv]; exact HI2.out) (HSG.out.below HB2.out) j2)
      have hj2 := lt_of_cell j2
      clear hw2 hb2 hv j2
      generalize wr.heap.size = jb at *
      go_wp2_with fail
      refine HR.out.mono ?_
      rintro e w3 ⟨rfl, hb3⟩
      have HB3 := Lib.hid (up_trans HB2.out hb3)
      clear hb3 m0 m1
      by_cases h16 : i ≤ 16
      · rw [outK, if_pos h16]
        have g8 : ¬ (i : Int) > 16 := by omega
        have g9 : IntKind.i64.wrap (7 + (i : Int)) = 7 + (i : Int) := IntWalk.i64_in _ (by omega)
        have g10 : IntKind.i64.wrap (7 + (i : Int) - 1) = 6 + (i : Int) := by rw [IntWalk.i64_in _ (by omega)]; omega
        have n0 := new_cell w3 #[.int .i64 1, .int .i64 (6 + (i : Int)), .slice none 0 0, .int .i64 0, .int .i64 0] 38 _ 3 (.int .i64 0) rfl rfl
        have n1 := new_cell w3 #[.int .i64 1, .int .i64 (6 + (i : Int)), .slice none 0 0, .int .i64 0, .int .i64 0] 38 _ 4 (.int .i64 0) rfl rfl
        have n2 := new_cell w3 #[.int .i64 1, .int .i64 (6 + (i : Int)), .slice none 0 0, .int .i64 0, .int .i64 0] 38 _ 1 (.int .i64 (6 + (i : Int))) rfl rfl
        go_wp2_with fail
        go_ret
        exact ⟨rfl, up_alloc HB3.out _⟩
      · rw [outK, if_neg h16]
        have g8 : (i : Int) > 16 := by omega
        have n0 := new_cell w3 #[.int .i64 0, .int .i64 0, .slice none 0 0, .int .i64 4, .int .i64 0] 38 _ 3 (.int .i64 4) rfl rfl
        have n1 := new_cell w3 #[.int .i64 0, .int .i64 0, .slice none 0 0, .int .i64 4, .int .i64 0] 38 _ 4 (.int .i64 0) rfl rfl
        go_wp2_with fail
        go_ret
        exact ⟨rfl, up_alloc HB3.out _⟩
end Go.Proofs.YtmdceokmpjcllaaGreatDoor
