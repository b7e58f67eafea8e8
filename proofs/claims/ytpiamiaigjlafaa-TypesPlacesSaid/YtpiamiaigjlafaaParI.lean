import Derived.Test.YtpiamiaigjlafaaParT
import Derived.Test.YtpiamiaigjlafaaAst
namespace Go.Proofs.Ytpiamiaigjlafaa
open Go.RowKit

/-- an expression that is handed back -/
def RX (base : Nat) (w : World) (x : Ex) (v : Value) : Prop := ∃ op num text s0 n cap pos, v = .agg #[.int .i64 op, .int .i64 num, .string text, .slice s0 n cap, .int .i64 pos] ∧ RepEx (From base) w [.int .i64 op, .int .i64 num, .string text, .slice s0 n cap, .int .i64 pos] x
theorem RX.keep {base : Nat} {w w' : World} {x : Ex} {v : Value} (h : RX base w x v) (ho : Stays (From base) w w') : RX base w' x v := by
  obtain ⟨op, num, text, s0, n, cap, pos, h1, h2⟩ := h
  exact ⟨op, num, text, s0, n, cap, pos, h1, h2.keep ho⟩
theorem RX.mono {base base' : Nat} {w : World} {x : Ex} {v : Value} (h : RX base w x v) (hb : base' ≤ base) : RX base' w x v := by
  obtain ⟨op, num, text, s0, n, cap, pos, h1, h2⟩ := h
  exact ⟨op, num, text, s0, n, cap, pos, h1, h2.down hb⟩
/-- the contract of what reads an expression -/
def ReadsEx (rb : Nat) (en : Int) (f : FuncId) (args : Array Value) (P : Par Ex) : Prop := ∀ (l : List Tk) (w : World), RdAt w rb l en → Calls Try.prog f args w (PSays rb en w (RX w.heap.size) (P l))
/-- five stores into a struct -/
def set5 (w : World) (k : Nat) (a b c d e : Value) : World := ((((w.setCell ⟨k, 0, none⟩ a).setCell ⟨k, 1, none⟩ b).setCell ⟨k, 2, none⟩ c).setCell ⟨k, 3, none⟩ d).setCell ⟨k, 4, none⟩ e
theorem On.set5 {k : Nat} {a w : World} (h : On k a w) (x0 x1 x2 x3 x4 : Value) : On k a (set5 w k x0 x1 x2 x3 x4) := ((((h.set 0 _).set 1 _).set 2 _).set 3 _).set 4 _
/-- a store behind what there was -/
theorem On.new {rb k : Nat} {a b c : World} (h : On rb a b) (g : On k b c) (hk : a.heap.size ≤ k) : On rb a c :=
  ⟨g.os.trans h.os, g.tape.trans h.tape, g.output.trans h.output, Nat.le_trans h.size g.size, fun i hi hne => (g.block i (Nat.lt_of_lt_of_le hi h.size) (fun e => by injection e with e; omega)).trans (h.block i hi hne)⟩

set_option maxRecDepth 100000 in
set_option maxHeartbeats 2000000 in
theorem inner_any (rb : Nat) (d : Int) (hd0 : 0 ≤ d) (hd : d ≤ 32) (en : Int) (P : Par Ex) (HE : ReadsEx rb en 82 #[.pointer (some ⟨rb, 0, none⟩), .int .i64 (d + 1)] P) : ReadsEx rb en 98 #[.pointer (some ⟨rb, 0, none⟩), .int .i64 d] (innerP en P) := by
  intro l w h
  have HM1 := Lib.hid (fun (W : World) (sb : Nat) (hW : RdAt W rb l en) (hs : W.cell? ⟨sb, 0, none⟩ = some (.string sOpen)) => must_any rb sb sOpen l en W hW hs)
  have HM2 := Lib.hid (fun (W : World) (l : List Tk) (sb : Nat) (hW : RdAt W rb l en) (hs : W.cell? ⟨sb, 0, none⟩ = some (.string sClose)) => must_any rb sb sClose l en W hW hs)
  have HEE := Lib.hid HE
  have HH := Lib.hid h
  have HLT := Lib.hid h.lt
  have hdi : d + 1 < 100 := by omega
  have HP : Hid (innerP en P l = (match mustP en sOpen l with | .error e => .error e | .ok (_, r) => (match P r with | .error e => .error e | .ok (x, r) => (match mustP en sClose r with | .error e => .error e | .ok (_, r) => .ok (x, r))))) := Lib.hid (by
    unfold innerP Par.bind okP
    cases mustP en sOpen l with
    | error e => rfl
    | ok q => 
      dsimp only
      cases P q.2 with
      | error e => rfl
      | ok z =>
        dsimp only
        cases mustP en sClose z.2 <;> rfl)
  clear HE h
  unfold sOpen sClose str at *
  go_enter Try.func98, Try.ntmps98
  go_wp2_with fail
  refine (HM1.out _ (w.heap.size + 1) (HH.out.on (up_alloc (up_alloc (Below.refl _ _) _) _)) (new_cell _ _ _ _ _ _ (size_alloc _ _) rfl)).mono ?_
  rintro e w1 hp
  have HO0 := Lib.hid (((On.refl rb w).alloc (.cells #[.int .i64 0, .int .i64 0, .string ⟨#[]⟩, .slice none 0 0, .int .i64 0] 44)).alloc (.cells #[.string ⟨[40].toArray⟩] 9))
  rcases hp.cases with ⟨er, p, hm, rfl, ho⟩ | ⟨x, r, v, hm, rfl, hv, hr, ho⟩
  · have HF := Lib.hid (show innerP en P l = .error (er, p) from by rw [HP.out, hm])
    have HO1 := Lib.hid (HO0.out.trans ho)
    clear hp hm ho
    unfold Pan
    go_wp2_with fail
    exact ⟨rfl, PSays.err HF.out HO1.out⟩
  · have HP1 := Lib.hid (show innerP en P l = (match P r with | .error e => .error e | .ok (x, r) => (match mustP en (⟨[41].toArray⟩ : ByteArray) r with | .error e => .error e | .ok (_, r) => .ok (x, r))) from by rw [HP.out, hm])
    have HO1 := Lib.hid (HO0.out.trans ho)
    have HR1 := Lib.hid hr
    have HC1 := Lib.hid (ho.obj (k' := w.heap.size) (o := .cells #[.int .i64 0, .int .i64 0, .string ⟨#[]⟩, .slice none 0 0, .int .i64 0] 44) (by have := HLT.out; omega) (old_heap _ _ _ _ (new_heap _ _ _ rfl)))
    clear hp hm ho hr
    subst hv
    go_wp2_with fail
    refine (HEE.out r w1 HR1.out).mono ?_
    rintro e w2 hp
    rcases hp.cases with ⟨er, p, hm, rfl, ho⟩ | ⟨x, r2, v, hm, rfl, hv, hr, ho⟩
    · have HF := Lib.hid (show innerP en P l = .error (er, p) from by rw [HP1.out, hm])
      have HO2 := Lib.hid (HO1.out.trans ho)
      clear hp hm ho
      unfold Pan
      go_wp2_with fail
      exact ⟨rfl, PSays.err HF.out HO2.out⟩
    · have HP2 := Lib.hid (show innerP en P l = (match mustP en (⟨[41].toArray⟩ : ByteArray) r2 with | .error e => .error e | .ok (_, r) => .ok (x, r)) from by rw [HP1.out, hm])
      have HO2 := Lib.hid (HO1.out.trans ho)
      have HR2 := Lib.hid hr
      have hsz : w.heap.size < w2.heap.size := Nat.lt_of_lt_of_le (lt_block HC1.out) ho.size
      have HC2 := Lib.hid (ho.obj (k' := w.heap.size) (by have := HLT.out; omega) HC1.out)
      obtain ⟨op, num, text, s0, n, cap, pos, rfl, hrep⟩ := hv
      have HREP := Lib.hid hrep
      clear hp hm ho hr hrep
      go_wp2_with fail
      have HB3 : Below w2.heap.size w2 ((w2.alloc (.cells #[.int .i64 op, .int .i64 num, .string text, .slice s0 n cap, .int .i64 pos] 44)).alloc (.cells #[.string ⟨[41].toArray⟩] 9)) := up_alloc (up_alloc (Below.refl _ _) _) _
      refine (HM2.out _ r2 (w2.heap.size + 1) (HR2.out.on HB3) (new_cell _ _ _ _ _ _ (size_alloc _ _) rfl)).mono ?_
      rintro e w3 hp
      have HO3 := Lib.hid (HO2.out.trans (On.of_below HB3))
      rcases hp.cases with ⟨er, p, hm, rfl, ho⟩ | ⟨x', r3, v, hm, rfl, hv, hr, ho⟩
      · have HF := Lib.hid (show innerP en P l = .error (er, p) from by rw [HP2.out, hm])
        have HO4 := Lib.hid (HO3.out.trans ho)
        clear hp hm ho
        unfold Pan
        go_wp2_with fail
        exact ⟨rfl, PSays.err HF.out HO4.out⟩
      · have HF := Lib.hid (show innerP en P l = .ok (x, r3) from by rw [HP2.out, hm])
        have HO4 := Lib.hid (HO3.out.trans ho)
        have HR4 := Lib.hid hr
        have hne2 : w2.heap.size ≠ rb := by have := HLT.out; omega
        have hx := ho.obj (k' := w2.heap.size) hne2 (old_heap _ _ _ _ (new_heap _ _ _ rfl))
        have hc := (On.of_below HB3 : On rb w2 _).obj (k' := w.heap.size) (by have := HLT.out; omega) HC2.out
        have hc3 := ho.obj (k' := w.heap.size) (by have := HLT.out; omega) hc
        have hlt1 := lt_block HC1.out
        have HREP4 := Lib.hid (HREP.out.keep ((Stays.of_below HB3).trans (Stays.of_on ho (by have := HLT.out; omega))))
        have HC3 := Lib.hid hc3
        have x0 := cell_of hx (j := 0) rfl
        have x1 := cell_of hx (j := 1) rfl
        have x2 := cell_of hx (j := 2) rfl
        have x3 := cell_of hx (j := 3) rfl
        have x4 := cell_of hx (j := 4) rfl
        have f0 := frozen_of hc3 0
        have f1 := frozen_of hc3 1
        have f2 := frozen_of hc3 2
        have f3 := frozen_of hc3 3
        have f4 := frozen_of hc3 4
        have c0 := cell_of hc3 (j := 0) rfl
        have c1 := cell_of hc3 (j := 1) rfl
        have c2 := cell_of hc3 (j := 2) rfl
        have c3 := cell_of hc3 (j := 3) rfl
        have c4 := cell_of hc3 (j := 4) rfl
        clear hp hm ho hr hx hc hc3 HB3
        subst hv
        go_wp2_with fail
        have HON : On w.heap.size w3 (set5 w3 w.heap.size (.int .i64 op) (.int .i64 num) (.string text) (.slice s0 n cap) (.int .i64 pos)) := (On.refl _ _).set5 _ _ _ _ _
        have HR5 := HR4.out.off HON HLT.out
        have HO5 := HO4.out.new HON (Nat.le_refl _)
        have HX5 := HREP4.out.keep (Stays.of_on HON hlt1)
        refine bodyPost_ret (v := .agg #[.int .i64 op, .int .i64 num, .string text, .slice s0 n cap, .int .i64 pos]) (by simp [results, Try.results98, go_sem, c0, c1, c2, c3, c4]) rfl ?_
        exact PSays.ok HF.out ⟨_, _, _, _, _, _, _, rfl, HX5.down (Nat.le_of_lt hlt1)⟩ HR5 HO5
end Go.Proofs.Ytpiamiaigjlafaa
