/-
  What an instruction does to a state: the arms that read the module, and all arms.
-/
import Derived.Test.YtmdceokmpjcllaaGreatDoorVerifyD
namespace Go.Proofs.YtmdceokmpjcllaaGreatDoor
open Go.RowKit
attribute [local go_sem ↓] Go.wp_at_zero Go.wp_at_succ

/-- where what lies below is not of block k, it stays -/
theorem On.base {k : Nat} {B w w' : World} (h : On k w w') (hB : Below B.heap.size B w) (hk : B.heap.size ≤ k) : Below B.heap.size B w' :=
  ⟨h.os.trans hB.os, h.tape.trans hB.tape, h.output.trans hB.output, Nat.le_trans hB.size h.size, fun b hb => (h.block b (Nat.lt_of_lt_of_le hb hB.size) (fun e => by injection e with e; omega)).trans (hB.block b hb)⟩
theorem drop_two {st : List Int} (h : 2 ≤ st.length) : st.drop (st.length - 2) = [st.getD (st.length - 2) 0, st.getD (st.length - 1) 0] := by
  have e1 : st.length - 2 + 1 = st.length - 1 := by omega
  have e2 : st.length - 1 + 1 = st.length := by omega
  rw [List.drop_eq_getElem_cons (by omega), e1, List.drop_eq_getElem_cons (by omega), e2, List.drop_length, List.getD_eq_getElem?_getD, List.getD_eq_getElem?_getD, List.getElem?_eq_getElem (by omega), List.getElem?_eq_getElem (by omega)]
  rfl
theorem stk_two {w : World} {v : Value} {x y : Int} (h : StkAt w v [x, y]) : ∃ b off cp, v = .slice (some ⟨b, off, none⟩) 2 cp ∧ w.cell? ⟨b, off, none⟩ = some (.int .i64 x) ∧ w.cell? ⟨b, off + 1, none⟩ = some (.int .i64 y) := by
  obtain ⟨s0, cp, rfl, _, _, _, h5, _⟩ := h
  obtain ⟨b, off, _, _, rfl, _, q3⟩ := h5 (by simp)
  exact ⟨b, off, cp, rfl, q3 0 (by simp), q3 1 (by simp)⟩
theorem made_i64 (l : List UInt8) (x y : Int) : i64 (madeB l x y) := by
  unfold madeB i64
  repeat (first | split | omega)

set_option maxRecDepth 100000 in
set_option maxHeartbeats 1000000 in
theorem does_two (k : Nat) (s : Sta) (c : Cd) (m : Mdl) (a : Int) (v0 v1 v2 v3 v4 vm : Value) (B w : World) (h : StAt w k s.st s.sl) (hlen : s.st.length ≤ 900000)
    (hm : RepMdl w vm m) (hsg : Signs B) (hB : Below B.heap.size B w) (hkB : B.heap.size ≤ k) :
    Calls Tryz.prog 56 #[.pointer (some ⟨k, 0, none⟩), .agg #[v0, v1, v2, v3, v4], vm, .agg #[.int .i64 7, .int .i64 a]] w (Says k w (doesS c m ⟨7, a⟩ s)) := by
  obtain ⟨st, sl⟩ := s
  dsimp only at h hlen ⊢
  have HW := Lib.hid h
  have hkl : k < w.heap.size := by obtain ⟨⟨_, q⟩, _⟩ := h; exact lt_of_block q
  obtain ⟨u0, u1, rfl, _, _⟩ := hm
  have hk2 : w.heap.size + 1 + 1 ≠ k := by omega
  have P1 := Lib.hid (fun (W : World) (st' : List Int) (t : Int) (hs : StAt W k st' sl) (hl : st'.length ≤ 900000) (ht : i64 t) => push_any k st' sl t W hs hl ht)
  have T1 := Lib.hid (fun (W : World) (hW : Below w.heap.size w W) => top_any k st sl 2 W (HW.out.below hW) (by omega))
  have HR : Hid (doesS c m ⟨7, a⟩ ⟨st, sl⟩ = twoS a ⟨st, sl⟩) := Lib.hid rfl
  have HS := Lib.hid (fun (W : World) (hW : Below B.heap.size B W) => hsg.below hW)
  have HB := Lib.hid (hB.trans ((up3 (w := w) (.cells #[v0, v1, v2, v3, v4] 30) (.cells #[u0, u1] 43) (.cells #[.int .i64 7, .int .i64 a] 25)).mono hB.size))
  clear h hsg hB
  generalize doesS c m ⟨7, a⟩ ⟨st, sl⟩ = r at *
  go_enter Tryz.func56, Tryz.ntmps56
  go_wp2_with fail
  refine (T1.out _ (up3 _ _ _)).mono ?_
  rintro e w1 ⟨hon, hif⟩
  have q1 : w1.cell? ⟨w.heap.size + 1 + 1, 1, none⟩ = some (.int .i64 a) := box3 hon hk2 1 _ rfl
  by_cases h2 : 2 ≤ st.length
  · rw [if_pos h2] at hif
    obtain ⟨v, rfl, hv, hst⟩ := hif
    rw [drop_two h2] at hv
    have hr := HR.out
    unfold twoS at hr
    dsimp only at hr
    rw [if_pos h2] at hr
    generalize st.getD (st.length - 2) 0 = x at *
    generalize st.getD (st.length - 1) 0 = y at *
    have S1 := Lib.hid (fun (W : World) (hW : Below B.heap.size B W) => sign_any a W (HS.out W hW))
    have M1 := Lib.hid (fun (W : World) => made_any (signS a) x y W)
    have hti := made_i64 (signS a).toList x y
    generalize madeB (signS a).toList x y = t at *
    generalize signS a = sg at *
    obtain ⟨b, off, cp, rfl, qx, qy⟩ := stk_two hv
    have HT := Lib.hid hst
    have HB1 := Lib.hid (hon.base HB.out hkB)
    have hl2 : (st.take (st.length - 2)).length ≤ 900000 := by simp; omega
    clear hv hst HR HB HS
    generalize st.take (st.length - 2) = st' at *
    have HO := Lib.hid hon
    clear hon
    by_cases ht : t = 0
    · subst ht
      rw [if_pos rfl] at hr
      subst hr
      go_wp2_with fail
      go_big_quiet (first | (go_at_call 68; exact Calls.quiet_of_same ((S1.out _ (by first | exact up_drewN HB1.out _ | exact up_drew HB1.out | exact HB1.out | exact up_drew (up_drewN HB1.out _))).mono fun _ _ h => h)) | (go_at_call 90; exact Calls.quiet_of_same ((M1.out _).mono fun _ _ h => h)))
      go_wp2_with fail
      go_ret
      exact ⟨rfl, ((On.of_below (up3 _ _ _)).trans HO.out).drewN _, fun s e => by cases e⟩
    · rw [if_neg ht] at hr
      subst hr
      have hd : (t != 0) = true := by simp [ht]
      go_wp2_with fail
      go_big_quiet (first | (go_at_call 68; exact Calls.quiet_of_same ((S1.out _ (by first | exact up_drewN HB1.out _ | exact up_drew HB1.out | exact HB1.out | exact up_drew (up_drewN HB1.out _))).mono fun _ _ h => h)) | (go_at_call 90; exact Calls.quiet_of_same ((M1.out _).mono fun _ _ h => h)))
      go_wp2_with fail
      refine (P1.out _ _ t (HT.out.drewN _) hl2 hti).mono ?_
      rintro e w2 ⟨rfl, hst2, hon2⟩
      go_wp2_with fail
      go_ret
      exact ⟨rfl, (((On.of_below (up3 _ _ _)).trans HO.out).drewN _).trans hon2, fun s e => by injection e with e; subst e; exact hst2⟩
  · rw [if_neg h2] at hif
    obtain ⟨rfl, hst⟩ := hif
    have hr := HR.out
    unfold twoS at hr
    dsimp only at hr
    rw [if_neg h2] at hr
    subst hr
    clear HR
    go_wp2_with fail
    go_ret
    exact ⟨rfl, (On.of_below (up3 _ _ _)).trans hon, fun s e => by cases e⟩
end Go.Proofs.YtmdceokmpjcllaaGreatDoor
