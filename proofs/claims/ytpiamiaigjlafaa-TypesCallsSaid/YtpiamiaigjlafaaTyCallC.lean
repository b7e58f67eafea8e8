/-
  TypesCalls: the function value that checks a call; rows of parameters and of arguments.
-/
import Derived.Test.YtpiamiaigjlafaaTyCallP
import Derived.Test.YtpiamiaigjlafaaTySet
namespace Go.Proofs.Ytpiamiaigjlafaa
open Go.RowKit

theorem fns_lit2 {W : World} {b : Nat} {x0 x1 x2 x3 x4 y0 y1 y2 y3 y4 : Value} {f g : Fn} {t : TypeId} {fz : Nat × Nat} (h : W.heap[b]? = some (.cells #[x0, x1, x2, x3, x4, y0, y1, y2, y3, y4] t fz)) (hf : RepFn Any W [x0, x1, x2, x3, x4] f) (hg : RepFn Any W [y0, y1, y2, y3, y4] g) :
    RepFns Any W (.slice (some ⟨b, 0, none⟩) 2 2) [f, g] :=
  ⟨_, row_lit 5 2 h trivial (by decide) rfl, fun i hi => by
    rcases (show i = 0 ∨ i = 1 by simp at hi; omega) with rfl | rfl
    · exact hf
    · exact hg⟩
set_option maxRecDepth 100000 in
set_option maxHeartbeats 4000000 in
theorem call_any (W : World) (FB : Nat) (ps : List (ByteArray × Int)) (ks : List Ex) (a1 a2 : Option Addr) (n1 c1 n2 c2 : Nat) (hf : W.heap[FB]? = some (.cells #[.string nmF, .slice a1 n1 c1, .int .i64 0, .slice none 0 0, .int .i64 0] 34 (0, 0))) (hp : RepPas Any W (.slice a1 n1 c1) ps) (hk : RepExs Any W (.slice a2 n2 c2) ks) (hl : ps.length ≤ 100000) :
    Calls Try.prog 13 #[.slice a2 n2 c2, .pointer (some ⟨FB, 0, none⟩)] W fun e w' => e = .returned (.int .i64 (checkC [fnG ks, fnF ps]).1) ∧ Below W.heap.size W w' := by
  have HFB := Lib.hid hf
  have hlt := lt_block hf
  have f0 : W.cell? ⟨FB, 0, none⟩ = some (.string nmF) := cell_of hf (j := 0) rfl
  have f1 : W.cell? ⟨FB, 1, none⟩ = some (.slice a1 n1 c1) := cell_of hf (j := 1) rfl
  have f2 : W.cell? ⟨FB, 2, none⟩ = some (.int .i64 0) := cell_of hf (j := 2) rfl
  have f3 : W.cell? ⟨FB, 3, none⟩ = some (.slice none 0 0) := cell_of hf (j := 3) rfl
  have f4 : W.cell? ⟨FB, 4, none⟩ = some (.int .i64 0) := cell_of hf (j := 4) rfl
  have HP := Lib.hid hp
  have HK := Lib.hid hk
  have HL := Lib.hid hl
  clear hf hp hk hl
  go_enter Try.func13, Try.ntmps13
  go_upto_region 2 with fail
  have hb1 : Below W.heap.size W (((W.alloc (.cells #[.int .i64 5, .int .i64 0, .string ⟨#[102]⟩, .slice a2 n2 c2, .int .i64 0] 44)).alloc (.cells #[.int .i64 8, .string ⟨#[]⟩, .slice (some ⟨W.heap.size, 0, none⟩) 1 1, .slice none 0 0, .slice none 0 0, .int .i64 0] 46)).alloc (.cells #[.string ⟨#[103]⟩, .slice none 0 0, .int .i64 0, .slice (some ⟨W.heap.size + 1, 0, none⟩) 1 1, .int .i64 0] 34)) := up_alloc (up_alloc (up_alloc (Below.refl _ _) _) _) _
  have HE : Hid ((((W.alloc (.cells #[.int .i64 5, .int .i64 0, .string ⟨#[102]⟩, .slice a2 n2 c2, .int .i64 0] 44)).alloc (.cells #[.int .i64 8, .string ⟨#[]⟩, .slice (some ⟨W.heap.size, 0, none⟩) 1 1, .slice none 0 0, .slice none 0 0, .int .i64 0] 46)).alloc (.cells #[.string ⟨#[103]⟩, .slice none 0 0, .int .i64 0, .slice (some ⟨W.heap.size + 1, 0, none⟩) 1 1, .int .i64 0] 34)).heap[W.heap.size]? = some (.cells #[.int .i64 5, .int .i64 0, .string ⟨#[102]⟩, .slice a2 n2 c2, .int .i64 0] 44 (0, 0))) := Lib.hid (old_heap _ _ _ _ (old_heap _ _ _ _ (new_heap _ _ _ rfl)))
  have HS : Hid ((((W.alloc (.cells #[.int .i64 5, .int .i64 0, .string ⟨#[102]⟩, .slice a2 n2 c2, .int .i64 0] 44)).alloc (.cells #[.int .i64 8, .string ⟨#[]⟩, .slice (some ⟨W.heap.size, 0, none⟩) 1 1, .slice none 0 0, .slice none 0 0, .int .i64 0] 46)).alloc (.cells #[.string ⟨#[103]⟩, .slice none 0 0, .int .i64 0, .slice (some ⟨W.heap.size + 1, 0, none⟩) 1 1, .int .i64 0] 34)).heap[W.heap.size + 1]? = some (.cells #[.int .i64 8, .string ⟨#[]⟩, .slice (some ⟨W.heap.size, 0, none⟩) 1 1, .slice none 0 0, .slice none 0 0, .int .i64 0] 46 (0, 0))) := Lib.hid (old_heap _ _ _ _ (new_heap _ _ _ (size_alloc _ _)))
  have HG : Hid ((((W.alloc (.cells #[.int .i64 5, .int .i64 0, .string ⟨#[102]⟩, .slice a2 n2 c2, .int .i64 0] 44)).alloc (.cells #[.int .i64 8, .string ⟨#[]⟩, .slice (some ⟨W.heap.size, 0, none⟩) 1 1, .slice none 0 0, .slice none 0 0, .int .i64 0] 46)).alloc (.cells #[.string ⟨#[103]⟩, .slice none 0 0, .int .i64 0, .slice (some ⟨W.heap.size + 1, 0, none⟩) 1 1, .int .i64 0] 34)).heap[W.heap.size + 2]? = some (.cells #[.string ⟨#[103]⟩, .slice none 0 0, .int .i64 0, .slice (some ⟨W.heap.size + 1, 0, none⟩) 1 1, .int .i64 0] 34 (0, 0))) := Lib.hid (new_heap _ _ _ (by rw [size_alloc, size_alloc]))
  have HB1 := Lib.hid hb1
  replace HFB := Lib.hid ((hb1.block _ (lt_block HFB.out)).trans HFB.out)
  replace HP : Hid (RepPas Any (((W.alloc (.cells #[.int .i64 5, .int .i64 0, .string ⟨#[102]⟩, .slice a2 n2 c2, .int .i64 0] 44)).alloc (.cells #[.int .i64 8, .string ⟨#[]⟩, .slice (some ⟨W.heap.size, 0, none⟩) 1 1, .slice none 0 0, .slice none 0 0, .int .i64 0] 46)).alloc (.cells #[.string ⟨#[103]⟩, .slice none 0 0, .int .i64 0, .slice (some ⟨W.heap.size + 1, 0, none⟩) 1 1, .int .i64 0] 34)) (.slice a1 n1 c1) ps) := Lib.hid (HP.out.keep (Stays.of_below hb1))
  replace HK := Lib.hid (HK.out.keep (Stays.of_below hb1))
  clear hb1 f0 f1 f2 f3 f4
  generalize (((W.alloc (.cells #[.int .i64 5, .int .i64 0, .string ⟨#[102]⟩, .slice a2 n2 c2, .int .i64 0] 44)).alloc (.cells #[.int .i64 8, .string ⟨#[]⟩, .slice (some ⟨W.heap.size, 0, none⟩) 1 1, .slice none 0 0, .slice none 0 0, .int .i64 0] 46)).alloc (.cells #[.string ⟨#[103]⟩, .slice none 0 0, .int .i64 0, .slice (some ⟨W.heap.size + 1, 0, none⟩) 1 1, .int .i64 0] 34)) = w1 at *
  generalize W.heap.size + 2 = GB at *
  generalize W.heap.size + 1 = SB at *
  generalize hEB : W.heap.size = EB at *
  have g0 : w1.cell? ⟨GB, 0, none⟩ = some (.string ⟨#[103]⟩) := cell_of HG.out (j := 0) rfl
  have g1 : w1.cell? ⟨GB, 1, none⟩ = some (.slice none 0 0) := cell_of HG.out (j := 1) rfl
  have g2 : w1.cell? ⟨GB, 2, none⟩ = some (.int .i64 0) := cell_of HG.out (j := 2) rfl
  have g3 : w1.cell? ⟨GB, 3, none⟩ = some (.slice (some ⟨SB, 0, none⟩) 1 1) := cell_of HG.out (j := 3) rfl
  have g4 : w1.cell? ⟨GB, 4, none⟩ = some (.int .i64 0) := cell_of HG.out (j := 4) rfl
  have f0 : w1.cell? ⟨FB, 0, none⟩ = some (.string ⟨#[102]⟩) := cell_of HFB.out (j := 0) rfl
  have f1 : w1.cell? ⟨FB, 1, none⟩ = some (.slice a1 n1 c1) := cell_of HFB.out (j := 1) rfl
  have f2 : w1.cell? ⟨FB, 2, none⟩ = some (.int .i64 0) := cell_of HFB.out (j := 2) rfl
  have f3 : w1.cell? ⟨FB, 3, none⟩ = some (.slice none 0 0) := cell_of HFB.out (j := 3) rfl
  have f4 : w1.cell? ⟨FB, 4, none⟩ = some (.int .i64 0) := cell_of HFB.out (j := 4) rfl
  have hb2 : Below w1.heap.size w1 (w1.alloc (.cells #[.string ⟨#[103]⟩, .slice none 0 0, .int .i64 0, .slice (some ⟨SB, 0, none⟩) 1 1, .int .i64 0, .string ⟨#[102]⟩, .slice a1 n1 c1, .int .i64 0, .slice none 0 0, .int .i64 0] 34)) := up_alloc (Below.refl _ _) _
  have HR : Hid (RepFns Any (w1.alloc (.cells #[.string ⟨#[103]⟩, .slice none 0 0, .int .i64 0, .slice (some ⟨SB, 0, none⟩) 1 1, .int .i64 0, .string ⟨#[102]⟩, .slice a1 n1 c1, .int .i64 0, .slice none 0 0, .int .i64 0] 34)) (.slice (some ⟨w1.heap.size, 0, none⟩) 2 2) [fnG ks, fnF ps]) := Lib.hid (by
    refine fns_lit2 (new_heap _ _ _ rfl) (fn_mk (pas_nil Any _) (sts_lit1 ((hb2.block _ (lt_block HS.out)).trans HS.out) (st_mk (exs_lit1 ((hb2.block _ (lt_block HE.out)).trans HE.out) (HK.out.keep (Stays.of_below hb2))) (RepSts.nil Any _) (RepSts.nil Any _)))) (fn_mk (HP.out.keep (Stays.of_below hb2)) (RepSts.nil Any _)))
  have HCK := Lib.hid (check_ck [fnG ks, fnF ps] (fun f hf => by
    rcases List.mem_cons.1 hf with rfl | hf
    · exact Nat.zero_le _
    · rw [List.mem_singleton] at hf
      subst hf
      exact HL.out) _ _ HR.out)
  have HB2 := Lib.hid (HB1.out.trans (hb2.mono (by rw [← hEB]; exact HB1.out.size)))
  clear hb2
  go_wp2_with fail
  refine HCK.out.mono ?_
  rintro e w3 ⟨rfl, hb3⟩
  have HB3 := Lib.hid (HB2.out.trans (hb3.mono (by rw [← hEB]; exact HB2.out.size)))
  clear hb3 g0 g1 g2 g3 g4 f0 f1 f2 f3 f4
  go_wp2_with fail
  exact bodyPost_ret (v := .int .i64 _) (by simp [results, Try.results13, go_sem]) rfl ⟨rfl, by rw [hEB]; exact HB3.out⟩
end Go.Proofs.Ytpiamiaigjlafaa
