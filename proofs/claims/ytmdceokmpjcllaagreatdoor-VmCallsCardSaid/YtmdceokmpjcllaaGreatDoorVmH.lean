/-
  The head's three runs, and the head; what the idle module's run comes to.
-/
import Derived.Test.YtmdceokmpjcllaaGreatDoorVmI
import Derived.Test.YtmdceokmpjcllaaGreatDoorVmN
namespace Go.Proofs.YtmdceokmpjcllaaGreatDoor
open Go.RowKit
attribute [local go_sem ↓] Go.wp_at_zero Go.wp_at_succ

/-- a module of one function lies there: its list of instructions is S, that of its functions is F -/
structure OneAt (S F : Nat) (c : Cd) (w : World) : Prop where
  ins : RepIns w (.slice (some ⟨S, 0, none⟩) c.ins.length c.ins.length) c.ins
  cd : CdAt w F 0 ⟨#[102]⟩ none 0 0 c.result (some ⟨S, 0, none⟩) c.ins.length c.ins.length
  mdl : RepMdl w (.agg #[.slice (some ⟨F, 0, none⟩) 1 1, .slice none 0 0]) ⟨[c], []⟩
  lt : S < w.heap.size
  sg : Signs w
theorem OneAt.later {S F : Nat} {c : Cd} {w w' : World} (h : OneAt S F c w) (hb : Below w.heap.size w w') : OneAt S F c w' :=
  ⟨h.ins.later hb, h.cd.up hb (lt_of_cell h.cd.c0), h.mdl.later hb, Nat.lt_of_lt_of_le h.lt hb.size, h.sg.below hb⟩
theorem one_at {S F : Nat} {w : World} {l : List Ins} {r : Int} {arr : Array Value} {t : TypeId} {fz : Nat × Nat} (hS : w.heap[S]? = some (.cells arr t fz)) (ha : arr = (insV l).toArray) (h0 : 0 < l.length) (hl : l.length ≤ 100000) (h64 : ∀ x, x ∈ l → i64 x.op ∧ i64 x.a) (hr : i64 r)
    {arr2 : Array Value} {t2 : TypeId} {fz2 : Nat × Nat} (hF : w.heap[F]? = some (.cells arr2 t2 fz2)) (ha2 : arr2 = #[.string ⟨#[102]⟩, .slice none 0 0, .int .i64 r, .int .i64 0, .slice (some ⟨S, 0, none⟩) l.length l.length]) (hsg : Signs w) : OneAt S F ⟨⟨#[102]⟩, [], r, 0, l⟩ w := by
  have hi := ins_heap hS ha h0 hl h64
  subst ha2
  have c0 := cell_of' hF 0 (u := .string ⟨#[102]⟩) rfl
  have c1 := cell_of' hF 1 (u := .slice none 0 0) rfl
  have c2 := cell_of' hF 2 (u := .int .i64 r) rfl
  have c3 := cell_of' hF 3 (u := .int .i64 0) rfl
  have c4 := cell_of' hF 4 (u := .slice (some ⟨S, 0, none⟩) l.length l.length) rfl
  exact ⟨hi, ⟨c0, c1, c2, c3, c4⟩, ⟨_, _, rfl, codes_one c0 c1 c2 c3 c4 ⟨rfl, (by unfold big; show (1 : Nat) ≤ _; omega), tys_nil _, rfl, rfl, hi, hr, (show i64 0 by constructor <;> decide)⟩, texts_nil _⟩, lt_of_block hS, hsg⟩

theorem outHQ {t : Int} {s : Mac} (h : HQ t s) : outV t s = .agg #[.int .i64 1, .int .i64 2, .slice none 0 0, .int .i64 0, .int .i64 3] := by
  obtain ⟨rfl, h1, h2, h3, h4⟩ := h
  rw [outV, if_pos rfl, h1, h2, h3, h4]
theorem outGQ {t : Int} {s : Mac} (h : GQ t s) : outV t s = .agg #[.int .i64 0, .int .i64 0, .slice none 0 0, .int .i64 1, .int .i64 2] := by
  obtain ⟨rfl, h1⟩ := h
  rw [outV, if_neg (by decide), h1]
theorem outIQ {L t : Int} {s : Mac} (h : IQ L t s) : outV t s = .agg #[.int .i64 0, .int .i64 0, .slice none 0 0, .int .i64 1, .int .i64 L] := by
  obtain ⟨rfl, h1⟩ := h
  rw [outV, if_neg (by decide), h1]
theorem run_head (S F jb : Nat) (w : World) (h : OneAt S F cH w) (hj : w.cell? ⟨jb, 1, none⟩ = some (.slice none 0 0)) :
    Calls Tryz.prog 10 #[.agg #[.slice (some ⟨F, 0, none⟩) 1 1, .slice none 0 0], .string ⟨#[102]⟩, .slice none 0 0, .pointer (some ⟨jb, 0, none⟩), .int .i64 10] w fun e w' => e = .returned (.agg #[.int .i64 1, .int .i64 2, .slice none 0 0, .int .i64 0, .int .i64 3]) ∧ Below w.heap.size w w' := by
  refine (run_rule F 0 1 1 none 0 0 ⟨[cH], []⟩ ⟨#[102]⟩ none 0 1 (some ⟨S, 0, none⟩) 3 3 jb 10 w h.mdl goodH h.sg (by decide) h.cd hj (by constructor <;> decide) HQ (fun base W0 X f v W hle hb0 hb hm hbg => ?_) (fun s' hq => ⟨1, 2, none, 0, 0, hq.2.2.1, hq.2.2.2.1, hq.2.2.2.2⟩)).mono ?_
  · exact head_runs S base W0 W X _ (Nat.lt_of_lt_of_le h.lt hle) (h.ins.later hb0) hb hm ⟨rfl, rfl, rfl, f, rfl, hbg.c4, hbg.c2, hbg.pc, hbg.st⟩
  · rintro e w' ⟨hb, t, s', hq, rfl⟩
    exact ⟨by rw [outHQ hq], hb⟩
theorem run_gas (S F jb : Nat) (w : World) (h : OneAt S F cH w) (hj : w.cell? ⟨jb, 1, none⟩ = some (.slice none 0 0)) :
    Calls Tryz.prog 10 #[.agg #[.slice (some ⟨F, 0, none⟩) 1 1, .slice none 0 0], .string ⟨#[102]⟩, .slice none 0 0, .pointer (some ⟨jb, 0, none⟩), .int .i64 2] w fun e w' => e = .returned (.agg #[.int .i64 0, .int .i64 0, .slice none 0 0, .int .i64 1, .int .i64 2]) ∧ Below w.heap.size w w' := by
  refine (run_rule F 0 1 1 none 0 0 ⟨[cH], []⟩ ⟨#[102]⟩ none 0 1 (some ⟨S, 0, none⟩) 3 3 jb 2 w h.mdl goodH h.sg (by decide) h.cd hj (by constructor <;> decide) GQ (fun base W0 X f v W hle hb0 hb hm hbg => ?_) (fun s' hq => by cases hq.1)).mono ?_
  · exact head_gas S base W0 W X _ (Nat.lt_of_lt_of_le h.lt hle) (h.ins.later hb0) hb hm ⟨rfl, rfl, rfl, f, rfl, hbg.c4, hbg.c2, hbg.pc, hbg.st⟩
  · rintro e w' ⟨hb, t, s', hq, rfl⟩
    exact ⟨by rw [outGQ hq], hb⟩
theorem run_idle (S F jb c L : Nat) (hc : c ≤ 255) (hL : L ≤ 255) (w : World) (h : OneAt S F (cI c) w) (hj : w.cell? ⟨jb, 1, none⟩ = some (.slice none 0 0)) :
    Calls Tryz.prog 10 #[.agg #[.slice (some ⟨F, 0, none⟩) 1 1, .slice none 0 0], .string ⟨#[102]⟩, .slice none 0 0, .pointer (some ⟨jb, 0, none⟩), .int .i64 (L : Int)] w fun e w' => e = .returned (.agg #[.int .i64 0, .int .i64 0, .slice none 0 0, .int .i64 1, .int .i64 (L : Int)]) ∧ Below w.heap.size w w' := by
  refine (run_rule F 0 1 1 none 0 0 ⟨[cI c], []⟩ ⟨#[102]⟩ none 0 0 (some ⟨S, 0, none⟩) 2 2 jb L w h.mdl (goodI c hc) h.sg (by decide) h.cd hj (by constructor <;> omega) (IQ L) (fun base W0 X f v W hle hb0 hb hm hbg => ?_) (fun s' hq => by cases hq.1)).mono ?_
  · exact idle_runs S base W0 W X _ c L (by omega) (by omega) (by omega) (by omega) (Nat.lt_of_lt_of_le h.lt hle) (h.ins.later hb0) hb hm ⟨by show newL (L : Int) = L; unfold newL; omega, rfl, rfl, f, rfl, hbg.c4, hbg.c2, hbg.pc, hbg.st⟩
  · rintro e w' ⟨hb, t, s', hq, rfl⟩
    exact ⟨by rw [outIQ hq], hb⟩

set_option maxRecDepth 100000 in
set_option maxHeartbeats 8000000 in
theorem head14 (w : World) (hsg : Signs w) : Calls Tryz.prog 8 #[] w fun e w' => e = .returned (.bool true) ∧ Below w.heap.size w w' := by
  have HB1 : Hid (Below w.heap.size w (((w.alloc (.cells #[.int .i64 1, .int .i64 3, .int .i64 2, .int .i64 2, .int .i64 18, .int .i64 0] 25)).alloc (.cells #[.string ⟨#[102]⟩, .slice none 0 0, .int .i64 1, .int .i64 0, .slice (some ⟨w.heap.size, 0, none⟩) 3 3] 30)).alloc (.cells #[.slice (some ⟨w.heap.size + 1, 0, none⟩) 1 1, .slice none 0 0] 43))) := Lib.hid (up_alloc (up_alloc (up_alloc (Below.refl w.heap.size w) _) _) _)
  have h0 : (((w.alloc (.cells #[.int .i64 1, .int .i64 3, .int .i64 2, .int .i64 2, .int .i64 18, .int .i64 0] 25)).alloc (.cells #[.string ⟨#[102]⟩, .slice none 0 0, .int .i64 1, .int .i64 0, .slice (some ⟨w.heap.size, 0, none⟩) 3 3] 30)).alloc (.cells #[.slice (some ⟨w.heap.size + 1, 0, none⟩) 1 1, .slice none 0 0] 43)).heap[w.heap.size]? = _ := old_heap _ _ _ _ (old_heap _ _ _ _ (new_heap _ _ _ rfl))
  have h1 : (((w.alloc (.cells #[.int .i64 1, .int .i64 3, .int .i64 2, .int .i64 2, .int .i64 18, .int .i64 0] 25)).alloc (.cells #[.string ⟨#[102]⟩, .slice none 0 0, .int .i64 1, .int .i64 0, .slice (some ⟨w.heap.size, 0, none⟩) 3 3] 30)).alloc (.cells #[.slice (some ⟨w.heap.size + 1, 0, none⟩) 1 1, .slice none 0 0] 43)).heap[w.heap.size + 1]? = _ := old_heap _ _ _ _ (new_heap _ _ _ (size_alloc _ _))
  have h2 : (((w.alloc (.cells #[.int .i64 1, .int .i64 3, .int .i64 2, .int .i64 2, .int .i64 18, .int .i64 0] 25)).alloc (.cells #[.string ⟨#[102]⟩, .slice none 0 0, .int .i64 1, .int .i64 0, .slice (some ⟨w.heap.size, 0, none⟩) 3 3] 30)).alloc (.cells #[.slice (some ⟨w.heap.size + 1, 0, none⟩) 1 1, .slice none 0 0] 43)).heap[w.heap.size + 1 + 1]? = _ := new_heap _ _ _ (by simp only [size_alloc])
  have HO : Hid (OneAt w.heap.size (w.heap.size + 1) cH _) := Lib.hid (one_at h0 rfl (by decide) (by decide) (fun x hx => by simp [hIns] at hx; rcases hx with rfl | rfl | rfl <;> exact ⟨by constructor <;> decide, by constructor <;> decide⟩) (by constructor <;> decide) h1 rfl (hsg.below HB1.out))
  have H2 := Lib.hid h2
  clear h0 h1 h2 hsg
  go_enter Tryz.func8, Tryz.ntmps8
  go_wp2_with fail
  have hsz : (((w.alloc (.cells #[.int .i64 1, .int .i64 3, .int .i64 2, .int .i64 2, .int .i64 18, .int .i64 0] 25)).alloc (.cells #[.string ⟨#[102]⟩, .slice none 0 0, .int .i64 1, .int .i64 0, .slice (some ⟨w.heap.size, 0, none⟩) 3 3] 30)).alloc (.cells #[.slice (some ⟨w.heap.size + 1, 0, none⟩) 1 1, .slice none 0 0] 43)).heap.size = w.heap.size + 1 + 1 + 1 := by simp only [size_alloc]
  generalize (((w.alloc (.cells #[.int .i64 1, .int .i64 3, .int .i64 2, .int .i64 2, .int .i64 18, .int .i64 0] 25)).alloc (.cells #[.string ⟨#[102]⟩, .slice none 0 0, .int .i64 1, .int .i64 0, .slice (some ⟨w.heap.size, 0, none⟩) 3 3] 30)).alloc (.cells #[.slice (some ⟨w.heap.size + 1, 0, none⟩) 1 1, .slice none 0 0] 43)) = W1 at *
  refine (new_nil _).mono ?_
  rintro e w1 ⟨rfl, hw1⟩
  have hb1 : Below W1.heap.size W1 w1 := by rw [hw1]; exact up_alloc (Below.refl _ _) _
  have hz1 := (hb1.block _ (lt_of_block H2.out)).trans H2.out
  have j1 : w1.cell? ⟨W1.heap.size, 1, none⟩ = some (.slice none 0 0) := by rw [hw1]; exact new_cell _ _ _ _ 1 _ rfl rfl
  have a0 := cell_of' hz1 0 (u := .slice (some ⟨w.heap.size + 1, 0, none⟩) 1 1) rfl
  have a1 := cell_of' hz1 1 (u := .slice none 0 0) rfl
  have HO1 := Lib.hid (HO.out.later hb1)
  have HZ1 := Lib.hid hz1
  have HBB1 := Lib.hid (HB1.out.trans (hb1.mono (by omega)))
  have hl1 := lt_of_cell j1
  have hs1 : w.heap.size + 1 + 1 < w1.heap.size := by omega
  generalize W1.heap.size = jb at *
  clear hw1 hb1 hz1 hsz
  go_wp2_with fail
  refine (run_head _ _ _ _ HO1.out j1).mono ?_
  rintro e w2 ⟨rfl, hb2⟩
  have hc : Below w1.heap.size w1 (w2.alloc (.cells #[.int .i64 1, .int .i64 2, .slice none 0 0, .int .i64 0, .int .i64 3] 38)) := up_alloc hb2 _
  have z := (hc.block _ (lt_of_block HZ1.out)).trans HZ1.out
  have HO2' := Lib.hid (HO1.out.later hc)
  have HZ2' := Lib.hid z
  have HBB2' := Lib.hid (up_trans HBB1.out hc)
  have j2' := (hc.cell (p := ⟨jb, 1, none⟩) hl1).trans j1
  have hl2' := Nat.lt_of_lt_of_le hl1 hc.size
  have HR22 : Hid ((w2.alloc (.cells #[.int .i64 1, .int .i64 2, .slice none 0 0, .int .i64 0, .int .i64 3] 38)).heap[w2.heap.size]? = some (.cells #[.int .i64 1, .int .i64 2, .slice none 0 0, .int .i64 0, .int .i64 3] 38 (0, 0))) := Lib.hid (new_heap _ _ _ rfl)
  have a0 := cell_of' z 0 (u := .slice (some ⟨w.heap.size + 1, 0, none⟩) 1 1) rfl
  have a1 := cell_of' z 1 (u := .slice none 0 0) rfl
  clear hc z hb2 j1 hl1
  go_wp2_with fail
  generalize w2.alloc (.cells #[.int .i64 1, .int .i64 2, .slice none 0 0, .int .i64 0, .int .i64 3] 38) = w2' at *
  generalize w2.heap.size = o2 at *
  refine (run_gas _ _ _ _ HO2'.out j2').mono ?_
  rintro e w3 ⟨rfl, hb3⟩
  have hc : Below w2'.heap.size w2' (w3.alloc (.cells #[.int .i64 0, .int .i64 0, .slice none 0 0, .int .i64 1, .int .i64 2] 38)) := up_alloc hb3 _
  have z := (hc.block _ (lt_of_block HZ2'.out)).trans HZ2'.out
  have HO3' := Lib.hid (HO2'.out.later hc)
  have HZ3' := Lib.hid z
  have HBB3' := Lib.hid (up_trans HBB2'.out hc)
  have j3' := (hc.cell (p := ⟨jb, 1, none⟩) hl2').trans j2'
  have hl3' := Nat.lt_of_lt_of_le hl2' hc.size
  have HR23 := Lib.hid ((hc.block _ (lt_of_block HR22.out)).trans HR22.out)
  have HR33 : Hid ((w3.alloc (.cells #[.int .i64 0, .int .i64 0, .slice none 0 0, .int .i64 1, .int .i64 2] 38)).heap[w3.heap.size]? = some (.cells #[.int .i64 0, .int .i64 0, .slice none 0 0, .int .i64 1, .int .i64 2] 38 (0, 0))) := Lib.hid (new_heap _ _ _ rfl)
  have a0 := cell_of' z 0 (u := .slice (some ⟨w.heap.size + 1, 0, none⟩) 1 1) rfl
  have a1 := cell_of' z 1 (u := .slice none 0 0) rfl
  clear hc z hb3 j2' hl2'
  go_wp2_with fail
  generalize w3.alloc (.cells #[.int .i64 0, .int .i64 0, .slice none 0 0, .int .i64 1, .int .i64 2] 38) = w3' at *
  generalize w3.heap.size = o3 at *
  refine (run_none _ _ _ _ _ _ ⟨#[102]⟩ ⟨#[103]⟩ (by rw [ByteArray.toList_eq, ByteArray.toList_eq]; decide) _ _ _ _ _ _ _ _ _ _ HO3'.out.cd).mono ?_
  rintro e w4 ⟨rfl, hb4⟩
  have hc : Below w3'.heap.size w3' (w4.alloc (.cells #[.int .i64 0, .int .i64 0, .slice none 0 0, .int .i64 7, .int .i64 0] 38)) := up_alloc hb4 _
  have z := (hc.block _ (lt_of_block HZ3'.out)).trans HZ3'.out
  have HO4' := Lib.hid (HO3'.out.later hc)
  have HZ4' := Lib.hid z
  have HBB4' := Lib.hid (up_trans HBB3'.out hc)
  have j4' := (hc.cell (p := ⟨jb, 1, none⟩) hl3').trans j3'
  have hl4' := Nat.lt_of_lt_of_le hl3' hc.size
  have HR24 := Lib.hid ((hc.block _ (lt_of_block HR23.out)).trans HR23.out)
  have HR34 := Lib.hid ((hc.block _ (lt_of_block HR33.out)).trans HR33.out)
  have HR44 : Hid ((w4.alloc (.cells #[.int .i64 0, .int .i64 0, .slice none 0 0, .int .i64 7, .int .i64 0] 38)).heap[w4.heap.size]? = some (.cells #[.int .i64 0, .int .i64 0, .slice none 0 0, .int .i64 7, .int .i64 0] 38 (0, 0))) := Lib.hid (new_heap _ _ _ rfl)
  have a0 := cell_of' z 0 (u := .slice (some ⟨w.heap.size + 1, 0, none⟩) 1 1) rfl
  have a1 := cell_of' z 1 (u := .slice none 0 0) rfl
  clear hc z hb4 j3' hl3'
  have r20 := cell_of' HR24.out 0 (u := .int .i64 1) rfl
  have r21 := cell_of' HR24.out 1 (u := .int .i64 2) rfl
  have r22 := cell_of' HR24.out 2 (u := .slice none 0 0) rfl
  have r23 := cell_of' HR24.out 3 (u := .int .i64 0) rfl
  have r24 := cell_of' HR24.out 4 (u := .int .i64 3) rfl
  have r30 := cell_of' HR34.out 0 (u := .int .i64 0) rfl
  have r31 := cell_of' HR34.out 1 (u := .int .i64 0) rfl
  have r32 := cell_of' HR34.out 2 (u := .slice none 0 0) rfl
  have r33 := cell_of' HR34.out 3 (u := .int .i64 1) rfl
  have r34 := cell_of' HR34.out 4 (u := .int .i64 2) rfl
  have r40 := cell_of' HR44.out 0 (u := .int .i64 0) rfl
  have r41 := cell_of' HR44.out 1 (u := .int .i64 0) rfl
  have r42 := cell_of' HR44.out 2 (u := .slice none 0 0) rfl
  have r43 := cell_of' HR44.out 3 (u := .int .i64 7) rfl
  have r44 := cell_of' HR44.out 4 (u := .int .i64 0) rfl
  go_wp2_with fail
  go_ret
  exact ⟨rfl, HBB4'.out⟩
end Go.Proofs.YtmdceokmpjcllaaGreatDoor
