/-
  Compile: part 8 of its proof: see the last text.
-/
import Derived.Test.YtjblihabklemfaaGreatDoorPm06
import Derived.IntWalk
import Derived.Test.YtjblihabklemfaaGreatDoorPm07
set_option maxRecDepth 100000
set_option maxHeartbeats 16000000
namespace Go.Proofs.YtjblihabklemfaaGreatDoor
section
open Go.RowKit
theorem iT {l : List Tk} : ∀ (sl : List ByteArray) (i : Nat), sl.find? (fun s => atS l 0 s) = none → ee l sl i = -1
 | [], _, _ => rfl
 | s :: r, i, h => by
  rw [List.find?_cons] at h
  unfold ee
  cases hq : atS l 0 s
  ·rw [hq] at h
   rw [if_neg (by decide)]
   exact iT r (i + 1) h
  ·rw [hq] at h
   cases h
theorem fT {l : List Tk} {s : ByteArray} : ∀ (sl : List ByteArray) (i : Nat), sl.find? (fun s => atS l 0 s) = some s → ∃ k, sl[k]? = some s ∧ ee l sl i = ((i + k : Nat) : Int) ∧ atS l 0 s = true
 | [], _, h => by cases h
 | t :: r, i, h => by
  rw [List.find?_cons] at h
  unfold ee
  cases hq : atS l 0 t
  ·rw [hq] at h
   obtain ⟨k, h1, h2, h3⟩ := fT r (i + 1) h
   refine ⟨k + 1, by simpa using h1, ?_, h3⟩
   rw [if_neg (by decide), h2]
   congr 1
   omega
  ·rw [hq] at h
   injection h with h
   subst h
   exact ⟨0, rfl, by simp, hq⟩
theorem gJ (en : Int) (n : Nat) (N : Par Ex) (f : Nat) (x : Ex) (l : List Tk) : dm en n N (f + 1) x l = (match (bD n).find? (fun s => atS l 0 s) with
    | none => .ok (x, l)
    | some s => (N.bind fun y => if n = 2 then okP (.mk 6 0 s [x, y] (aM en l)) else dm en n N f (.mk 6 0 s [x, y] (aM en l))) l.tail) := rfl
theorem ng {l : List Tk} {s : ByteArray} (h : atS l 0 s = true) : l.tail.length + 1 = l.length := by
 cases l with
 | nil => rw [i6] at h; cases h
 | cons t r => rfl
theorem gD {n i : Nat} {s : ByteArray} (h : (bD n)[i]? = some s) : (bf n)[i]? = some (.string s) := by
 unfold bf
 simp [h]
theorem fW (n : Nat) : (bD n).length ≤ 6 := by
 match n with
 | 0 => decide
 | 1 => decide
 | 2 => decide
 | 3 => decide
 | n + 4 => show 3 ≤ 6; decide
theorem RowOf.lies {S : Nat → Prop} {w : World} {v : Value} {sz n : Nat} {cs : Nat → List Value} (h : RowOf S w v sz n cs) : RowOf (fun b => S b ∧ b < w.heap.size) w v sz n cs := by
 obtain ⟨s0, cap, h1, h2, h3, h4, h5, h6⟩ := h
 refine ⟨s0, cap, h1, h2, h3, h4, fun h0 => ?_, h6⟩
 obtain ⟨b, off, e, hb', hl, hc⟩ := h5 h0
 exact ⟨b, off, e, ⟨hb', hl⟩, hl, hc⟩
theorem RepEx.lies {S : Nat → Prop} {w : World} {cs : List Value} {x : Ex} (h : RepEx S w cs x) : RepEx (fun b => S b ∧ b < w.heap.size) w cs x := by
 induction h with
 | mk cs hr _ ih => exact .mk cs hr.lies ih
theorem eY (rb n : Nat) (hn : n ≤ 4) (d en : Int) (N : Par Ex) (HN : bP rb en 126 #[.pointer (some ⟨rb, 0, none⟩), .int .i64 ((n : Int) + 1), .int .i64 d] N) (hN : ∀ l x r, N l = .ok (x, r) → r.length ≤ l.length) :
    bP rb en 126 #[.pointer (some ⟨rb, 0, none⟩), .int .i64 n, .int .i64 d] (fun l => (N.bind fun x r => dm en n N (r.length + 1) x r) l) := by
 intro l w h
 have HNN := zh HN
 have HNL := zh hN
 have HLT := zh h.lt
 have HB0 : Below w.heap.size w ((w.alloc (.cells #[.pointer (some ⟨rb, 0, none⟩)] 86)).alloc (.cells #[.int .i64 0, .int .i64 0, .string ⟨#[]⟩, .slice none 0 0, .int .i64 0] 65)) := ae (ae (Below.refl _ _) _) _
 have HH := zh (h.on HB0)
 have HO0 := zh (On.of_below HB0 : On rb w _)
 have hn5 : ((n : Int) == 5) = false := by simp; omega
 have hni : (n : Int) ≤ 4 := by omega
 have HM : Hid (∀ v, N l = v → (fun l => (N.bind fun x r => dm en n N (r.length + 1) x r) l) l = (match v with | .error e => .error e | .ok (x, r) => dm en n N (r.length + 1) x r)) := zh (fun v hv => by
   show Par.bind N _ l = _
   unfold Par.bind
   rw [hv]
   cases v <;> rfl)
 generalize (fun l => (N.bind fun x r => dm en n N (r.length + 1) x r) l) l = R at *
 clear HN h HB0 hN
 go_enter Tryz.func126, Tryz.ntmps126
 go_wp2_with fail
 refine (HNN.out l _ HH.out).mono ?_
 rintro e w2 hp
 rcases hp.cases with ⟨er, p, hm, rfl, ho⟩ | ⟨x0, r0, v, hm, rfl, hv, hr, ho⟩
 ·have HF := zh (HM.out _ hm)
  have HO1 := zh (HO0.out.trans ho)
  clear hp hm ho
  unfold Pan
  go_wp2_with fail
  exact ⟨rfl, PSays.err HF.out HO1.out⟩
 ·have HF := zh (show R = dm en n N (r0.length + 1) x0 r0 from HM.out _ hm)
  have HO1 := zh (HO0.out.trans ho)
  have HR1 := zh hr
  have HBX := zh (ho.obj (k' := w.heap.size) (o := .cells #[.pointer (some ⟨rb, 0, none⟩)] 86) (by have := HLT.out; omega) (au _ _ _ _ (ah _ _ _ rfl)))
  have HC3 := zh (ho.obj (k' := w.heap.size + 1) (o := .cells #[.int .i64 0, .int .i64 0, .string ⟨#[]⟩, .slice none 0 0, .int .i64 0] 65) (by have := HLT.out; omega) (ah _ _ _ (ag _ _)))
  have hsz : w.heap.size + 1 + 1 = ((w.alloc (.cells #[.pointer (some ⟨rb, 0, none⟩)] 86)).alloc (.cells #[.int .i64 0, .int .i64 0, .string ⟨#[]⟩, .slice none 0 0, .int .i64 0] 65)).heap.size := by rw [ag, ag]
  have hge2 : w.heap.size + 1 + 1 ≤ w2.heap.size := by rw [hsz]; exact ho.size
  rw [← hsz] at hv
  obtain ⟨op, num, text, s0, nk, cap, pos, rfl, hrep⟩ := hv
  have HREP := zh hrep
  clear hp hm ho hr hrep hsz
  go_wp2_with fail
  have HB2 : Below w2.heap.size w2 (w2.alloc (.cells #[.int .i64 op, .int .i64 num, .string text, .slice s0 nk cap, .int .i64 pos] 65)) := ae (Below.refl _ _) _
  have HSTART := zh (And.intro (HR1.out.on HB2) (And.intro (HO1.out.trans (On.of_below HB2)) (And.intro ((On.of_below HB2 : On rb w2 _).obj (by have := HLT.out; omega) HBX.out) (And.intro ((On.of_below HB2 : On rb w2 _).obj (by have := HLT.out; omega) HC3.out) (And.intro (ah w2 (.cells #[.int .i64 op, .int .i64 num, .string text, .slice s0 nk cap, .int .i64 pos] 65) _ rfl) ((HREP.out.lies.mono (S' := fun b => w.heap.size + 1 + 1 ≤ b ∧ b ≠ w2.heap.size) (fun b hb => ⟨hb.1, Nat.ne_of_lt hb.2⟩)).keep (Stays.of_below HB2)))))))
  clear HB2 HREP HR1 HO1 HBX HC3
  generalize hXB : w2.heap.size = XB at *
  have HXB := zh hge2
  have HRX := zh (show rb < XB from by have := HLT.out; omega)
  clear hXB
  go_loopg [8] (r0.length + 1) (fun g s8 wr => ∃ (xc : Ex) (lc : List Tk) (op num : Int) (text : ByteArray) (s0 : Option Addr) (nk cap : Nat) (pos : Int), R = dm en n N g xc lc ∧ lc.length < g ∧ RdAt wr rb lc en ∧ On rb w wr ∧ wr.heap[w.heap.size]? = some (.cells #[.pointer (some ⟨rb, 0, none⟩)] 86) ∧ wr.heap[w.heap.size + 1]? = some (.cells #[.int .i64 0, .int .i64 0, .string ⟨#[]⟩, .slice none 0 0, .int .i64 0] 65) ∧ wr.heap[XB]? = some (.cells #[.int .i64 op, .int .i64 num, .string text, .slice s0 nk cap, .int .i64 pos] 65) ∧ RepEx (fun b => w.heap.size + 1 + 1 ≤ b ∧ b ≠ XB) wr [.int .i64 op, .int .i64 num, .string text, .slice s0 nk cap, .int .i64 pos] xc)
  case atStart => exact ⟨x0, r0, _, _, _, _, _, _, _, HF.out, Nat.lt_succ_self _, HSTART.out.1, HSTART.out.2.1, HSTART.out.2.2.1, HSTART.out.2.2.2.1, HSTART.out.2.2.2.2.1, HSTART.out.2.2.2.2.2⟩
  case round =>
   clear HSTART HF HM
   obtain ⟨xc, lc, op, num, text, s0, nk, cap, pos, hR, hlg, hrd, hon, hbx, hc3, hx, hrep⟩ := hrel
   obtain ⟨g, rfl⟩ : ∃ g, gk = g + 1 := ⟨gk - 1, by omega⟩
   have HRD := zh hrd
   have HON := zh hon
   have HBX := zh hbx
   have HC3 := zh hc3
   have HX := zh hx
   have HREP := zh hrep
   have HRR := zh hR
   have HLG := zh hlg
   have HS := zh (ox n hn)
   clear hrd hon hbx hc3 hx hrep hR hlg
   have hb1 : Below wr.heap.size wr (wr.alloc (.cells (bf n) 9)) := ae (Below.refl _ _) _
   have HI := zh (n7 rb w.heap.size wr.heap.size (bD n) (fW n) lc en _ (HRD.out.on hb1) (aa ((hb1.block _ (ad HBX.out)).trans HBX.out) rfl) (fun i hi => aw _ _ _ _ _ _ rfl (gD (List.getElem?_eq_getElem hi))))
   have HB1 := zh hb1
   clear hb1
   cases hf : (bD n).find? (fun s => atS lc 0 s) with
   | none =>
    have hix := iT (bD n) 0 hf
    rw [hix] at HI
    have HF : Hid (R = .ok (xc, lc)) := zh (by
      rw [HRR.out]
      unfold dm
      simp only [hf])
    clear hf hix
    go_wp2_with fail
    refine (HS.out _).mono ?_
    rintro e w3 ⟨rfl, rfl⟩
    go_wp2_with fail
    refine HI.out.mono ?_
    rintro e w3 ⟨rfl, rfl⟩
    have hx := au wr _ (.cells (bf n) 9) _ HX.out
    have hc3 := au wr _ (.cells (bf n) 9) _ HC3.out
    have x0 := aa hx (j := 0) rfl
    have x1 := aa hx (j := 1) rfl
    have x2 := aa hx (j := 2) rfl
    have x3 := aa hx (j := 3) rfl
    have x4 := aa hx (j := 4) rfl
    have f0 := ab hc3 0
    have f1 := ab hc3 1
    have f2 := ab hc3 2
    have f3 := ab hc3 3
    have f4 := ab hc3 4
    have c0 := aa hc3 (j := 0) rfl
    have c1 := aa hc3 (j := 1) rfl
    have c2 := aa hc3 (j := 2) rfl
    have c3 := aa hc3 (j := 3) rfl
    have c4 := aa hc3 (j := 4) rfl
    clear hx hc3
    go_wp2_with fail
    have HSET : On (w.heap.size + 1) (wr.alloc (.cells (bf n) 9)) (set5 (wr.alloc (.cells (bf n) 9)) (w.heap.size + 1) (.int .i64 op) (.int .i64 num) (.string text) (.slice s0 nk cap) (.int .i64 pos)) := (On.refl _ _).set5 _ _ _ _ _
    have HR5 := (HRD.out.on HB1.out).off HSET (Nat.lt_succ_of_lt HLT.out)
    have HO5 := (HON.out.trans (On.of_below HB1.out)).new HSET (Nat.le_succ _)
    have HX5 := HREP.out.keep ((Stays.of_below HB1.out).trans (Stays.of_ne HSET (fun h => by have := h.1; omega)))
    refine bodyPost_ret (v := .agg #[.int .i64 op, .int .i64 num, .string text, .slice s0 nk cap, .int .i64 pos]) (by simp [results, Tryz.results126, go_sem, c0, c1, c2, c3, c4]) rfl ?_
    exact PSays.ok HF.out ⟨_, _, _, _, _, _, _, rfl, HX5.mono (fun b hb => Nat.le_trans (by omega) hb.1)⟩ HR5 HO5
   | some s =>
    obtain ⟨ix, hget, hixx, hats⟩ := fT (bD n) 0 hf
    have hixl : ix < (bD n).length := (List.getElem?_eq_some_iff.1 hget).1
    have hix : ee lc (bD n) 0 = (ix : Int) := by rw [hixx, Nat.zero_add]
    have hl6 := fW n
    rw [hix] at HI
    have HF : Hid (∀ v, N lc.tail = v → R = (match v with | .error e => .error e | .ok (y, r) => if n = 2 then .ok (.mk 6 0 s [xc, y] (aM en lc), r) else dm en n N g (.mk 6 0 s [xc, y] (aM en lc)) r)) := zh (fun v hv => by
      rw [HRR.out, gJ, hf]
      dsimp only
      unfold Par.bind
      rw [hv]
      cases v with
      | error e => rfl
      | ok q =>
        dsimp only
        split <;> rfl)
    have HMS : Hid (aX en s lc = .ok ((), lc.tail)) := zh (by unfold aX; rw [if_pos hats])
    have HLEN := zh (ng hats)
    have HGET := zh (gD hget)
    have hbx := au wr _ (.cells (bf n) 9) _ HBX.out
    have b0 := aa hbx (j := 0) rfl
    have HPLC := zh (dZ rb lc en _ (HRD.out.on HB1.out))
    clear hf hix hixx hats hget hbx
    generalize hpl : aM en lc = pl at *
    generalize (bD n).length = sn at *
    clear hpl
    go_wp2_with fail
    refine (HS.out _).mono ?_
    rintro e w3 ⟨rfl, rfl⟩
    go_wp2_with fail
    refine HI.out.mono ?_
    rintro e w3 ⟨rfl, rfl⟩
    go_wp2_with fail
    refine HPLC.out.mono ?_
    rintro e w3 ⟨rfl, rfl⟩
    go_wp2_with fail
    have hget := HGET.out
    have hb1 := (HRD.out.on HB1.out)
    have HMU := zh (fun (W : World) (sb : Nat) (hW : Below wr.heap.size wr W) (hs : W.cell? ⟨sb, 0, none⟩ = some (.string s)) => HMS.out ▸ aU rb sb s lc en W (HRD.out.on hW) hs)
    have HKB := zh (fun (W : World) (hW : Below wr.heap.size wr W) => (aK hW _ 0 (ad HBX.out)).trans (aa HBX.out (j := 0) rfl))
    have hne := HLT.out
    clear hb1
    refine az (S := (fun w' => w'.cell? ⟨w.heap.size, 0, none⟩ = some (.pointer (some ⟨rb, 0, none⟩)))) 7 (by kernel_rfl) (by kernel_rfl) (by (first | exact q0 | (exact HKB.out _ (by repeat (first | exact HB1.out | refine av ?_ | refine ae ?_ _))) | go_keep)) (fun hHeld => ?_)
    simp only [List.take_succ_cons, List.take_zero, List.drop_succ_cons, List.drop_zero]
    refine tkA 0 ?_
    refine tkA 1 ?_
    refine tkA 3 ?_
    refine rd1 2 fun K hK => ?_
    (go_simp; go_at_call 133; refine (HS.out _).mono ?_; rintro e w3 ⟨rfl, rfl⟩; dsimp only)
    refine hK.out _ _ ?_ (fun hHeld => ?_)
    ·(try dsimp only); (first | exact q0 | (exact HKB.out _ (by repeat (first | exact HB1.out | refine av ?_ | refine ae ?_ _))) | go_keep)
    clear hK K
    try go_simp
    refine rd1 4 fun K hK => ?_
    go_simp
    refine hK.out _ _ ?_ (fun hHeld => ?_)
    ·(try dsimp only); (first | exact q0 | (exact HKB.out _ (by repeat (first | exact HB1.out | refine av ?_ | refine ae ?_ _))) | go_keep)
    clear hK K
    try go_simp
    refine rd1 5 fun K hK => ?_
    go_simp
    refine hK.out _ _ ?_ (fun hHeld => ?_)
    ·(try dsimp only); (first | exact q0 | (exact HKB.out _ (by repeat (first | exact HB1.out | refine av ?_ | refine ae ?_ _))) | go_keep)
    clear hK K
    try go_simp
    refine rd1 6 fun K hK => ?_
    go_simp
    refine hK.out _ _ ?_ (fun hHeld => ?_)
    ·(try dsimp only); (first | exact q0 | (exact HKB.out _ (by repeat (first | exact HB1.out | refine av ?_ | refine ae ?_ _))) | go_keep)
    clear hK K
    try go_simp
    refine wpAnyH_done (by kernel_rfl) ?_ _
    dsimp only [bT]
    go_wp2_with fail
    refine (HMU.out ((((wr.alloc (.cells (bf n) 9)).alloc (.cells (bf n) 9)).alloc (.cells #[.string s] 9)).drew) (wr.heap.size + 1 + 1) (by repeat (first | exact HB1.out | refine av ?_ | refine ae ?_ _)) (show (((wr.alloc (.cells (bf n) 9)).alloc (.cells (bf n) 9)).alloc (.cells #[.string s] 9)).cell? _ = _ from aw ((wr.alloc (.cells (bf n) 9)).alloc (.cells (bf n) 9)) #[.string s] 9 _ 0 _ (by rw [ag, ag]) rfl)).mono ?_
    rintro e w4 ⟨⟨v, rfl, hv, hr4⟩, ho4⟩
    subst hv
    have hbb : Below wr.heap.size wr ((((wr.alloc (.cells (bf n) 9)).alloc (.cells (bf n) 9)).alloc (.cells #[.string s] 9)).drew) := by repeat (first | exact HB1.out | refine av ?_ | refine ae ?_ _)
    have HO4 := zh ((On.of_below hbb : On rb wr _).trans ho4)
    have HR4 := zh hr4
    have hneX : XB ≠ rb ∧ w.heap.size ≠ rb ∧ w.heap.size + 1 ≠ rb := by have := HLT.out; omega
    have hx4 := HO4.out.obj (k' := XB) hneX.1 HX.out
    have HX4 := zh hx4
    have HBX4 := zh (HO4.out.obj (k' := w.heap.size) hneX.2.1 HBX.out)
    have HC4 := zh (HO4.out.obj (k' := w.heap.size + 1) hneX.2.2 HC3.out)
    have x0 := aa hx4 (j := 0) rfl
    have x1 := aa hx4 (j := 1) rfl
    have x2 := aa hx4 (j := 2) rfl
    have x3 := aa hx4 (j := 3) rfl
    have x4 := aa hx4 (j := 4) rfl
    clear hbb hr4 ho4 hx4 b0
    go_wp2_with fail
    have hw1 : IntKind.i64.wrap ((n : Int) + 1) = (n : Int) + 1 := IntWalk.i64_in _ (by omega)
    have hb5 : Below w4.heap.size w4 (w4.alloc (.cells #[.int .i64 op, .int .i64 num, .string text, .slice s0 nk cap, .int .i64 pos] 65)) := ae (Below.refl _ _) _
    have HB5 := zh hb5
    have HL5 := zh (ah w4 (.cells #[.int .i64 op, .int .i64 num, .string text, .slice s0 nk cap, .int .i64 pos] 65) _ rfl)
    generalize hW5 : w4.alloc (.cells #[.int .i64 op, .int .i64 num, .string text, .slice s0 nk cap, .int .i64 pos] 65) = W5 at *
    have HSZ5 := zh (show W5.heap.size = w4.heap.size + 1 from by rw [← hW5, ag])
    have HBX5 := zh ((hb5.block _ (ad HBX4.out)).trans HBX4.out)
    have HX5 := zh ((hb5.block _ (ad HX4.out)).trans HX4.out)
    have HC5 := zh ((hb5.block _ (ad HC4.out)).trans HC4.out)
    have HK5 := zh (fun (W : World) (hW : Below W5.heap.size W5 W) => (show _ ∧ _ ∧ _ ∧ _ ∧ _ ∧ _ from ⟨(aK hW _ 0 (ad HBX5.out)).trans (aa HBX5.out (j := 0) rfl), (aK hW _ 0 (ad HL5.out)).trans (aa HL5.out (j := 0) rfl), (aK hW _ 1 (ad HL5.out)).trans (aa HL5.out (j := 1) rfl), (aK hW _ 2 (ad HL5.out)).trans (aa HL5.out (j := 2) rfl), (aK hW _ 3 (ad HL5.out)).trans (aa HL5.out (j := 3) rfl), (aK hW _ 4 (ad HL5.out)).trans (aa HL5.out (j := 4) rfl)⟩))
    have HR5 := zh (HR4.out.on hb5)
    have HO45 := zh ((On.trans HO4.out (On.of_below hb5) : On rb wr W5))
    have HB5 := zh (Below.refl W5.heap.size W5)
    have HO5 := zh (HON.out.trans HO45.out)
    have HBO := zh (fun (W w' : World) (ho : On rb W w') (hW : Below W5.heap.size W5 W) => (On.of_below hW : On rb W5 W).trans ho)
    have HKW := zh (fun (W w' : World) (_ : On rb W w') (hW : Below W5.heap.size W5 W) => HK5.out W hW)
    have HXL := zh (ad HX5.out)
    have HX4L := zh (ad HX4.out)
    have hls : w.heap.size < W5.heap.size ∧ w4.heap.size < W5.heap.size := ⟨ad HBX5.out, ad HL5.out⟩
    clear hb5 hW5 x0 x1 x2 x3 x4
    refine az (S := (fun w' => w'.cell? ⟨w.heap.size, 0, none⟩ = some (.pointer (some ⟨rb, 0, none⟩)) ∧ w'.cell? ⟨w4.heap.size, 0, none⟩ = some (.int .i64 op) ∧ w'.cell? ⟨w4.heap.size, 1, none⟩ = some (.int .i64 num) ∧ w'.cell? ⟨w4.heap.size, 2, none⟩ = some (.string text) ∧ w'.cell? ⟨w4.heap.size, 3, none⟩ = some (.slice s0 nk cap) ∧ w'.cell? ⟨w4.heap.size, 4, none⟩ = some (.int .i64 pos))) 14 (by kernel_rfl) (by kernel_rfl) (by (first | (refine HK5.out _ ?_; repeat (first | exact HB5.out | refine av ?_ | refine ae ?_ _)) | go_keep)) (fun hHeld => ?_)
    simp only [List.take_succ_cons, List.take_zero, List.drop_succ_cons, List.drop_zero]
    refine tkA 0 ?_
    refine tkA 2 ?_
    refine tkA 5 ?_
    refine tkA 6 ?_
    refine tkA 7 ?_
    refine tkA 8 ?_
    refine tkA 9 ?_
    refine tkA 12 ?_
    refine rd1 1 fun K hK => ?_
    (go_simp; go_at_call 133; refine (HS.out _).mono ?_; rintro e w6 ⟨rfl, rfl⟩; dsimp only)
    refine hK.out _ _ ?_ (fun hHeld => ?_)
    ·(try dsimp only); (first | (refine HK5.out _ ?_; repeat (first | exact HB5.out | refine av ?_ | refine ae ?_ _)) | go_keep)
    clear hK K
    try go_simp
    refine tkA 3 ?_
    refine wpAnyH_ready (rs := [4, 10]) (by kernel_rfl) (by simp) ?_
    refine (AllReadyH.cons rfl (fun K hK => ?_) (AllReadyH.cons rfl (fun K hK => ?_) AllReadyH.nil))
    ·go_simp
     refine hK.out _ _ ?_ (fun hHeld => ?_)
     ·(try dsimp only)
      (first | (refine HK5.out _ ?_; repeat (first | exact HB5.out | refine av ?_ | refine ae ?_ _)) | go_keep)
     clear hK K
     try go_simp
     refine rd1 10 fun K hK => ?_
     go_simp
     go_at_call 126
     refine (HNN.out lc.tail _ ?_).mono ?_
     ·exact HR5.out.on (by repeat (first | exact HB5.out | refine av ?_ | refine ae ?_ _))
     rintro e w7 hp
     rcases hp.cases with ⟨er, p, hm, rfl, ho⟩ | ⟨y, r7, v7, hm, rfl, hv, hr, ho⟩
     ·have HE := zh (HF.out _ hm)
      have HO7 := zh (HO5.out.trans (HBO.out _ _ ho (by repeat (first | exact HB5.out | refine av ?_ | refine ae ?_ _))))
      clear hp hm ho
      unfold Pan
      (try go_wp2_with fail)
      exact ⟨rfl, PSays.err HE.out HO7.out⟩
     ·have HE := zh (HF.out _ hm)
      have HR7 := zh hr
      have ho57 := HBO.out _ _ ho (by repeat (first | exact HB5.out | refine av ?_ | refine ae ?_ _))
      have HO57 := zh ho57
      have HNL7 := zh (HNL.out _ _ _ hm)
      have hq := HKW.out _ _ ho (by repeat (first | exact HB5.out | refine av ?_ | refine ae ?_ _))
      obtain ⟨q0, q1, q2, q3, q4, q5⟩ := hq
      have hne7 : w.heap.size ≠ rb ∧ w4.heap.size ≠ rb ∧ W5.heap.size ≠ rb := by have := HLT.out; have := hls; have := HX4L.out; have := HXB.out; omega
      replace q0 := ho.cell hne7.1 q0
      replace q1 := ho.cell hne7.2.1 q1
      replace q2 := ho.cell hne7.2.1 q2
      replace q3 := ho.cell hne7.2.1 q3
      replace q4 := ho.cell hne7.2.1 q4
      replace q5 := ho.cell hne7.2.1 q5
      have y5 := ho.cell hne7.2.2 (show (W5.drew.alloc (.cells (bf n) 9)).cell? ⟨W5.heap.size, ix, none⟩ = _ from aw _ _ _ _ _ _ rfl hget)
      have hlt7 : W5.heap.size < w7.heap.size := am y5
      have HX7 := zh (ho57.obj hneX.1 HX5.out)
      have HBX7 := zh (ho57.obj hneX.2.1 HBX5.out)
      have HC7 := zh (ho57.obj hneX.2.2 HC5.out)
      obtain ⟨op7, num7, text7, s7, nk7, cap7, pos7, rfl, hrep7⟩ := hv
      have HREP7 := zh (hrep7.mono (S' := fun b => w.heap.size + 1 + 1 ≤ b ∧ b ≠ XB) (fun b hb => by have h1 := HXL.out; have h2 := HXB.out; have h3 : W5.heap.size ≤ b := Nat.le_trans (show W5.heap.size ≤ (W5.alloc (.cells (bf n) 9)).drew.heap.size from by show _ ≤ (W5.alloc _).heap.size; rw [ag]; exact Nat.le_succ _) hb; exact ⟨by omega, by omega⟩))
      clear hp hm hr hrep7 ho ho57 hne7
      refine hK.out _ _ ?_ (fun hHeld => ?_)
      ·(try dsimp only)
       (first | exact ⟨q0, q1, q2, q3, q4, q5⟩ | exact ⟨aj _ q0, aj _ q1, aj _ q2, aj _ q3, aj _ q4, aj _ q5⟩)
      clear hK K
      try go_simp
      refine rd1 11 fun K hK => ?_
      go_simp
      refine hK.out _ _ ?_ (fun hHeld => ?_)
      ·(try dsimp only)
       (first | exact ⟨q0, q1, q2, q3, q4, q5⟩ | exact ⟨aj _ q0, aj _ q1, aj _ q2, aj _ q3, aj _ q4, aj _ q5⟩)
      clear hK K
      try go_simp
      refine rd1 13 fun K hK => ?_
      go_simp
      refine hK.out _ _ ?_ (fun hHeld => ?_)
      ·(try dsimp only)
       (first | exact ⟨q0, q1, q2, q3, q4, q5⟩ | exact ⟨aj _ q0, aj _ q1, aj _ q2, aj _ q3, aj _ q4, aj _ q5⟩)
      clear hK K
      try go_simp
      refine wpAnyH_done (by kernel_rfl) ?_ _
      dsimp only [bT]
      have HB8 : Below w7.heap.size w7 (w7.alloc (.cells #[.int .i64 op, .int .i64 num, .string text, .slice s0 nk cap, .int .i64 pos, .int .i64 op7, .int .i64 num7, .string text7, .slice s7 nk7 cap7, .int .i64 pos7] 65)) := ae (Below.refl _ _) _
      have HX8 := zh ((HB8.block _ (ad HX7.out)).trans HX7.out)
      have HBX8 := zh ((HB8.block _ (ad HBX7.out)).trans HBX7.out)
      have HC8 := zh ((HB8.block _ (ad HC7.out)).trans HC7.out)
      have hset : On XB (w7.alloc (.cells #[.int .i64 op, .int .i64 num, .string text, .slice s0 nk cap, .int .i64 pos, .int .i64 op7, .int .i64 num7, .string text7, .slice s7 nk7 cap7, .int .i64 pos7] 65)) (set5 (w7.alloc (.cells #[.int .i64 op, .int .i64 num, .string text, .slice s0 nk cap, .int .i64 pos, .int .i64 op7, .int .i64 num7, .string text7, .slice s7 nk7 cap7, .int .i64 pos7] 65)) XB (.int .i64 6) (.int .i64 0) (.string s) (.slice (some ⟨w7.heap.size, 0, none⟩) 2 2) (.int .i64 pl)) := (On.refl _ _).set5 _ _ _ _ _
      have HRD8 := zh ((HR7.out.on HB8).off hset HRX.out)
      have HON8 := zh (((HO5.out.trans HO57.out).trans (On.of_below HB8)).new hset (by have := HXB.out; omega))
      have HX9 := zh (jk (a' := .int .i64 6) (b' := .int .i64 0) (c' := .string s) (d' := .slice (some ⟨w7.heap.size, 0, none⟩) 2 2) (e' := .int .i64 pl) HX8.out)
      have HBX9 := zh (hset.obj (by have := HXB.out; omega) HBX8.out)
      have HC9 := zh (hset.obj (by have := HXB.out; omega) HC8.out)
      have hstay : Stays (fun b => w.heap.size + 1 + 1 ≤ b ∧ b ≠ XB) w7 (set5 (w7.alloc (.cells #[.int .i64 op, .int .i64 num, .string text, .slice s0 nk cap, .int .i64 pos, .int .i64 op7, .int .i64 num7, .string text7, .slice s7 nk7 cap7, .int .i64 pos7] 65)) XB (.int .i64 6) (.int .i64 0) (.string s) (.slice (some ⟨w7.heap.size, 0, none⟩) 2 2) (.int .i64 pl)) := (Stays.of_below HB8).trans (Stays.of_ne hset (fun h => h.2 rfl))
      have hstay2 : Stays (fun b => w.heap.size + 1 + 1 ≤ b ∧ b ≠ XB) wr w7 := Stays.of_ne (HO45.out.trans HO57.out) (fun h => by have := HLT.out; have := h.1; omega)
      have HREP9 := zh (RepEx.of (op := 6) (num := 0) (pos := pl) (text := s) (kG (HREP.out.keep (hstay2.trans hstay)) (HREP7.out.keep hstay) (b := w7.heap.size) (by have h1 := HXL.out; have h2 := HXB.out; exact ⟨by omega, by omega⟩) (hset.obj (by have h1 := HXL.out; omega) (ah _ _ _ rfl))))
      have hx8 := HX8.out
      have hc8 := HC8.out
      have e0 := aa hx8 (j := 0) rfl
      have e1 := aa hx8 (j := 1) rfl
      have e2 := aa hx8 (j := 2) rfl
      have e3 := aa hx8 (j := 3) rfl
      have e4 := aa hx8 (j := 4) rfl
      have g0 := ab hx8 0
      have g1 := ab hx8 1
      have g2 := ab hx8 2
      have g3 := ab hx8 3
      have g4 := ab hx8 4
      have hXBw : w.heap.size + 1 < XB := by have := HXB.out; omega
      clear hx8 hset hstay hstay2 HB8
      by_cases hn2 : n = 2
      ·have HF2 := zh (show R = .ok (.mk 6 0 s [xc, y] pl, r7) from by rw [HE.out]; dsimp only; rw [if_pos hn2])
       subst hn2
       have hn2b : (((2 : Nat) : Int) == 2) = true := by decide
       have f0 := ab hc8 0
       have f1 := ab hc8 1
       have f2 := ab hc8 2
       have f3 := ab hc8 3
       have f4 := ab hc8 4
       have c0 := aa hc8 (j := 0) rfl
       have c1 := aa hc8 (j := 1) rfl
       have c2 := aa hc8 (j := 2) rfl
       have c3 := aa hc8 (j := 3) rfl
       have c4 := aa hc8 (j := 4) rfl
       clear hc8
       go_wp2_with fail
       have hset2 : On (w.heap.size + 1) (set5 (w7.alloc (.cells #[.int .i64 op, .int .i64 num, .string text, .slice s0 nk cap, .int .i64 pos, .int .i64 op7, .int .i64 num7, .string text7, .slice s7 nk7 cap7, .int .i64 pos7] 65)) XB (.int .i64 6) (.int .i64 0) (.string s) (.slice (some ⟨w7.heap.size, 0, none⟩) 2 2) (.int .i64 pl)) (set5 (set5 (w7.alloc (.cells #[.int .i64 op, .int .i64 num, .string text, .slice s0 nk cap, .int .i64 pos, .int .i64 op7, .int .i64 num7, .string text7, .slice s7 nk7 cap7, .int .i64 pos7] 65)) XB (.int .i64 6) (.int .i64 0) (.string s) (.slice (some ⟨w7.heap.size, 0, none⟩) 2 2) (.int .i64 pl)) (w.heap.size + 1) (.int .i64 6) (.int .i64 0) (.string s) (.slice (some ⟨w7.heap.size, 0, none⟩) 2 2) (.int .i64 pl)) := (On.refl _ _).set5 _ _ _ _ _
       refine bodyPost_ret (v := .agg #[.int .i64 6, .int .i64 0, .string s, .slice (some ⟨w7.heap.size, 0, none⟩) 2 2, .int .i64 pl]) (by simp [results, Tryz.results126, go_sem, c0, c1, c2, c3, c4]) rfl ?_
       exact PSays.ok HF2.out ⟨_, _, _, _, _, _, _, rfl, (HREP9.out.keep (Stays.of_ne hset2 (fun h => by have := h.1; omega))).mono (fun b hb => Nat.le_trans (by omega) hb.1)⟩ (HRD8.out.off hset2 (Nat.lt_succ_of_lt HLT.out)) (HON8.out.new hset2 (Nat.le_succ _))
      ·have HF2 := zh (show R = dm en n N g (.mk 6 0 s [xc, y] pl) r7 from by rw [HE.out]; dsimp only; rw [if_neg hn2])
       have hn2b : ((n : Int) == 2) = false := by simp; omega
       clear hn2 hc8
       go_wp2_with fail
       go_roundg g
       case rel => exact ⟨_, r7, _, _, _, _, _, _, _, HF2.out, by have := HNL7.out; have := HLEN.out; have := HLG.out; omega, HRD8.out, HON8.out, HBX9.out, HC9.out, HX9.out, HREP9.out⟩
       case measure => omega
    ·go_simp
     go_at_call 126
     refine (HNN.out lc.tail _ ?_).mono ?_
     ·exact HR5.out.on (by repeat (first | exact HB5.out | refine av ?_ | refine ae ?_ _))
     rintro e w7 hp
     rcases hp.cases with ⟨er, p, hm, rfl, ho⟩ | ⟨y, r7, v7, hm, rfl, hv, hr, ho⟩
     ·have HE := zh (HF.out _ hm)
      have HO7 := zh (HO5.out.trans (HBO.out _ _ ho (by repeat (first | exact HB5.out | refine av ?_ | refine ae ?_ _))))
      clear hp hm ho
      unfold Pan
      (try go_wp2_with fail)
      exact ⟨rfl, PSays.err HE.out HO7.out⟩
     ·have HE := zh (HF.out _ hm)
      have HR7 := zh hr
      have ho57 := HBO.out _ _ ho (by repeat (first | exact HB5.out | refine av ?_ | refine ae ?_ _))
      have HO57 := zh ho57
      have HNL7 := zh (HNL.out _ _ _ hm)
      have hq := HKW.out _ _ ho (by repeat (first | exact HB5.out | refine av ?_ | refine ae ?_ _))
      obtain ⟨q0, q1, q2, q3, q4, q5⟩ := hq
      have hne7 : w.heap.size ≠ rb ∧ w4.heap.size ≠ rb ∧ W5.heap.size ≠ rb := by have := HLT.out; have := hls; have := HX4L.out; have := HXB.out; omega
      replace q0 := ho.cell hne7.1 q0
      replace q1 := ho.cell hne7.2.1 q1
      replace q2 := ho.cell hne7.2.1 q2
      replace q3 := ho.cell hne7.2.1 q3
      replace q4 := ho.cell hne7.2.1 q4
      replace q5 := ho.cell hne7.2.1 q5
      have y5 := ho.cell hne7.2.2 (show (W5.drew.alloc (.cells (bf n) 9)).cell? ⟨W5.heap.size, ix, none⟩ = _ from aw _ _ _ _ _ _ rfl hget)
      have hlt7 : W5.heap.size < w7.heap.size := am y5
      have HX7 := zh (ho57.obj hneX.1 HX5.out)
      have HBX7 := zh (ho57.obj hneX.2.1 HBX5.out)
      have HC7 := zh (ho57.obj hneX.2.2 HC5.out)
      obtain ⟨op7, num7, text7, s7, nk7, cap7, pos7, rfl, hrep7⟩ := hv
      have HREP7 := zh (hrep7.mono (S' := fun b => w.heap.size + 1 + 1 ≤ b ∧ b ≠ XB) (fun b hb => by have h1 := HXL.out; have h2 := HXB.out; have h3 : W5.heap.size ≤ b := Nat.le_trans (show W5.heap.size ≤ (W5.alloc (.cells (bf n) 9)).drew.heap.size from by show _ ≤ (W5.alloc _).heap.size; rw [ag]; exact Nat.le_succ _) hb; exact ⟨by omega, by omega⟩))
      clear hp hm hr hrep7 ho ho57 hne7
      refine hK.out _ _ ?_ (fun hHeld => ?_)
      ·(try dsimp only)
       (first | exact ⟨q0, q1, q2, q3, q4, q5⟩ | exact ⟨aj _ q0, aj _ q1, aj _ q2, aj _ q3, aj _ q4, aj _ q5⟩)
      clear hK K
      try go_simp
      refine wpAnyH_ready (rs := [4, 11]) (by kernel_rfl) (by simp) ?_
      refine (AllReadyH.cons rfl (fun K hK => ?_) (AllReadyH.cons rfl (fun K hK => ?_) AllReadyH.nil))
      ·go_simp
       refine hK.out _ _ ?_ (fun hHeld => ?_)
       ·(try dsimp only)
        (first | exact ⟨q0, q1, q2, q3, q4, q5⟩ | exact ⟨aj _ q0, aj _ q1, aj _ q2, aj _ q3, aj _ q4, aj _ q5⟩)
       clear hK K
       try go_simp
       refine rd1 11 fun K hK => ?_
       go_simp
       refine hK.out _ _ ?_ (fun hHeld => ?_)
       ·(try dsimp only)
        (first | exact ⟨q0, q1, q2, q3, q4, q5⟩ | exact ⟨aj _ q0, aj _ q1, aj _ q2, aj _ q3, aj _ q4, aj _ q5⟩)
       clear hK K
       try go_simp
       refine rd1 13 fun K hK => ?_
       go_simp
       refine hK.out _ _ ?_ (fun hHeld => ?_)
       ·(try dsimp only)
        (first | exact ⟨q0, q1, q2, q3, q4, q5⟩ | exact ⟨aj _ q0, aj _ q1, aj _ q2, aj _ q3, aj _ q4, aj _ q5⟩)
       clear hK K
       try go_simp
       refine wpAnyH_done (by kernel_rfl) ?_ _
       dsimp only [bT]
       have HB8 : Below w7.heap.size w7 (w7.alloc (.cells #[.int .i64 op, .int .i64 num, .string text, .slice s0 nk cap, .int .i64 pos, .int .i64 op7, .int .i64 num7, .string text7, .slice s7 nk7 cap7, .int .i64 pos7] 65)) := ae (Below.refl _ _) _
       have HX8 := zh ((HB8.block _ (ad HX7.out)).trans HX7.out)
       have HBX8 := zh ((HB8.block _ (ad HBX7.out)).trans HBX7.out)
       have HC8 := zh ((HB8.block _ (ad HC7.out)).trans HC7.out)
       have hset : On XB (w7.alloc (.cells #[.int .i64 op, .int .i64 num, .string text, .slice s0 nk cap, .int .i64 pos, .int .i64 op7, .int .i64 num7, .string text7, .slice s7 nk7 cap7, .int .i64 pos7] 65)) (set5 (w7.alloc (.cells #[.int .i64 op, .int .i64 num, .string text, .slice s0 nk cap, .int .i64 pos, .int .i64 op7, .int .i64 num7, .string text7, .slice s7 nk7 cap7, .int .i64 pos7] 65)) XB (.int .i64 6) (.int .i64 0) (.string s) (.slice (some ⟨w7.heap.size, 0, none⟩) 2 2) (.int .i64 pl)) := (On.refl _ _).set5 _ _ _ _ _
       have HRD8 := zh ((HR7.out.on HB8).off hset HRX.out)
       have HON8 := zh (((HO5.out.trans HO57.out).trans (On.of_below HB8)).new hset (by have := HXB.out; omega))
       have HX9 := zh (jk (a' := .int .i64 6) (b' := .int .i64 0) (c' := .string s) (d' := .slice (some ⟨w7.heap.size, 0, none⟩) 2 2) (e' := .int .i64 pl) HX8.out)
       have HBX9 := zh (hset.obj (by have := HXB.out; omega) HBX8.out)
       have HC9 := zh (hset.obj (by have := HXB.out; omega) HC8.out)
       have hstay : Stays (fun b => w.heap.size + 1 + 1 ≤ b ∧ b ≠ XB) w7 (set5 (w7.alloc (.cells #[.int .i64 op, .int .i64 num, .string text, .slice s0 nk cap, .int .i64 pos, .int .i64 op7, .int .i64 num7, .string text7, .slice s7 nk7 cap7, .int .i64 pos7] 65)) XB (.int .i64 6) (.int .i64 0) (.string s) (.slice (some ⟨w7.heap.size, 0, none⟩) 2 2) (.int .i64 pl)) := (Stays.of_below HB8).trans (Stays.of_ne hset (fun h => h.2 rfl))
       have hstay2 : Stays (fun b => w.heap.size + 1 + 1 ≤ b ∧ b ≠ XB) wr w7 := Stays.of_ne (HO45.out.trans HO57.out) (fun h => by have := HLT.out; have := h.1; omega)
       have HREP9 := zh (RepEx.of (op := 6) (num := 0) (pos := pl) (text := s) (kG (HREP.out.keep (hstay2.trans hstay)) (HREP7.out.keep hstay) (b := w7.heap.size) (by have h1 := HXL.out; have h2 := HXB.out; exact ⟨by omega, by omega⟩) (hset.obj (by have h1 := HXL.out; omega) (ah _ _ _ rfl))))
       have hx8 := HX8.out
       have hc8 := HC8.out
       have e0 := aa hx8 (j := 0) rfl
       have e1 := aa hx8 (j := 1) rfl
       have e2 := aa hx8 (j := 2) rfl
       have e3 := aa hx8 (j := 3) rfl
       have e4 := aa hx8 (j := 4) rfl
       have g0 := ab hx8 0
       have g1 := ab hx8 1
       have g2 := ab hx8 2
       have g3 := ab hx8 3
       have g4 := ab hx8 4
       have hXBw : w.heap.size + 1 < XB := by have := HXB.out; omega
       clear hx8 hset hstay hstay2 HB8
       by_cases hn2 : n = 2
       ·have HF2 := zh (show R = .ok (.mk 6 0 s [xc, y] pl, r7) from by rw [HE.out]; dsimp only; rw [if_pos hn2])
        subst hn2
        have hn2b : (((2 : Nat) : Int) == 2) = true := by decide
        have f0 := ab hc8 0
        have f1 := ab hc8 1
        have f2 := ab hc8 2
        have f3 := ab hc8 3
        have f4 := ab hc8 4
        have c0 := aa hc8 (j := 0) rfl
        have c1 := aa hc8 (j := 1) rfl
        have c2 := aa hc8 (j := 2) rfl
        have c3 := aa hc8 (j := 3) rfl
        have c4 := aa hc8 (j := 4) rfl
        clear hc8
        go_wp2_with fail
        have hset2 : On (w.heap.size + 1) (set5 (w7.alloc (.cells #[.int .i64 op, .int .i64 num, .string text, .slice s0 nk cap, .int .i64 pos, .int .i64 op7, .int .i64 num7, .string text7, .slice s7 nk7 cap7, .int .i64 pos7] 65)) XB (.int .i64 6) (.int .i64 0) (.string s) (.slice (some ⟨w7.heap.size, 0, none⟩) 2 2) (.int .i64 pl)) (set5 (set5 (w7.alloc (.cells #[.int .i64 op, .int .i64 num, .string text, .slice s0 nk cap, .int .i64 pos, .int .i64 op7, .int .i64 num7, .string text7, .slice s7 nk7 cap7, .int .i64 pos7] 65)) XB (.int .i64 6) (.int .i64 0) (.string s) (.slice (some ⟨w7.heap.size, 0, none⟩) 2 2) (.int .i64 pl)) (w.heap.size + 1) (.int .i64 6) (.int .i64 0) (.string s) (.slice (some ⟨w7.heap.size, 0, none⟩) 2 2) (.int .i64 pl)) := (On.refl _ _).set5 _ _ _ _ _
        refine bodyPost_ret (v := .agg #[.int .i64 6, .int .i64 0, .string s, .slice (some ⟨w7.heap.size, 0, none⟩) 2 2, .int .i64 pl]) (by simp [results, Tryz.results126, go_sem, c0, c1, c2, c3, c4]) rfl ?_
        exact PSays.ok HF2.out ⟨_, _, _, _, _, _, _, rfl, (HREP9.out.keep (Stays.of_ne hset2 (fun h => by have := h.1; omega))).mono (fun b hb => Nat.le_trans (by omega) hb.1)⟩ (HRD8.out.off hset2 (Nat.lt_succ_of_lt HLT.out)) (HON8.out.new hset2 (Nat.le_succ _))
       ·have HF2 := zh (show R = dm en n N g (.mk 6 0 s [xc, y] pl) r7 from by rw [HE.out]; dsimp only; rw [if_neg hn2])
        have hn2b : ((n : Int) == 2) = false := by simp; omega
        clear hn2 hc8
        go_wp2_with fail
        go_roundg g
        case rel => exact ⟨_, r7, _, _, _, _, _, _, _, HF2.out, by have := HNL7.out; have := HLEN.out; have := HLG.out; omega, HRD8.out, HON8.out, HBX9.out, HC9.out, HX9.out, HREP9.out⟩
        case measure => omega
      ·go_simp
       refine hK.out _ _ ?_ (fun hHeld => ?_)
       ·(try dsimp only)
        (first | exact ⟨q0, q1, q2, q3, q4, q5⟩ | exact ⟨aj _ q0, aj _ q1, aj _ q2, aj _ q3, aj _ q4, aj _ q5⟩)
       clear hK K
       try go_simp
       refine rd1 4 fun K hK => ?_
       go_simp
       refine hK.out _ _ ?_ (fun hHeld => ?_)
       ·(try dsimp only)
        (first | exact ⟨q0, q1, q2, q3, q4, q5⟩ | exact ⟨aj _ q0, aj _ q1, aj _ q2, aj _ q3, aj _ q4, aj _ q5⟩)
       clear hK K
       try go_simp
       refine rd1 13 fun K hK => ?_
       go_simp
       refine hK.out _ _ ?_ (fun hHeld => ?_)
       ·(try dsimp only)
        (first | exact ⟨q0, q1, q2, q3, q4, q5⟩ | exact ⟨aj _ q0, aj _ q1, aj _ q2, aj _ q3, aj _ q4, aj _ q5⟩)
       clear hK K
       try go_simp
       refine wpAnyH_done (by kernel_rfl) ?_ _
       dsimp only [bT]
       have HB8 : Below w7.heap.size w7 (w7.alloc (.cells #[.int .i64 op, .int .i64 num, .string text, .slice s0 nk cap, .int .i64 pos, .int .i64 op7, .int .i64 num7, .string text7, .slice s7 nk7 cap7, .int .i64 pos7] 65)) := ae (Below.refl _ _) _
       have HX8 := zh ((HB8.block _ (ad HX7.out)).trans HX7.out)
       have HBX8 := zh ((HB8.block _ (ad HBX7.out)).trans HBX7.out)
       have HC8 := zh ((HB8.block _ (ad HC7.out)).trans HC7.out)
       have hset : On XB (w7.alloc (.cells #[.int .i64 op, .int .i64 num, .string text, .slice s0 nk cap, .int .i64 pos, .int .i64 op7, .int .i64 num7, .string text7, .slice s7 nk7 cap7, .int .i64 pos7] 65)) (set5 (w7.alloc (.cells #[.int .i64 op, .int .i64 num, .string text, .slice s0 nk cap, .int .i64 pos, .int .i64 op7, .int .i64 num7, .string text7, .slice s7 nk7 cap7, .int .i64 pos7] 65)) XB (.int .i64 6) (.int .i64 0) (.string s) (.slice (some ⟨w7.heap.size, 0, none⟩) 2 2) (.int .i64 pl)) := (On.refl _ _).set5 _ _ _ _ _
       have HRD8 := zh ((HR7.out.on HB8).off hset HRX.out)
       have HON8 := zh (((HO5.out.trans HO57.out).trans (On.of_below HB8)).new hset (by have := HXB.out; omega))
       have HX9 := zh (jk (a' := .int .i64 6) (b' := .int .i64 0) (c' := .string s) (d' := .slice (some ⟨w7.heap.size, 0, none⟩) 2 2) (e' := .int .i64 pl) HX8.out)
       have HBX9 := zh (hset.obj (by have := HXB.out; omega) HBX8.out)
       have HC9 := zh (hset.obj (by have := HXB.out; omega) HC8.out)
       have hstay : Stays (fun b => w.heap.size + 1 + 1 ≤ b ∧ b ≠ XB) w7 (set5 (w7.alloc (.cells #[.int .i64 op, .int .i64 num, .string text, .slice s0 nk cap, .int .i64 pos, .int .i64 op7, .int .i64 num7, .string text7, .slice s7 nk7 cap7, .int .i64 pos7] 65)) XB (.int .i64 6) (.int .i64 0) (.string s) (.slice (some ⟨w7.heap.size, 0, none⟩) 2 2) (.int .i64 pl)) := (Stays.of_below HB8).trans (Stays.of_ne hset (fun h => h.2 rfl))
       have hstay2 : Stays (fun b => w.heap.size + 1 + 1 ≤ b ∧ b ≠ XB) wr w7 := Stays.of_ne (HO45.out.trans HO57.out) (fun h => by have := HLT.out; have := h.1; omega)
       have HREP9 := zh (RepEx.of (op := 6) (num := 0) (pos := pl) (text := s) (kG (HREP.out.keep (hstay2.trans hstay)) (HREP7.out.keep hstay) (b := w7.heap.size) (by have h1 := HXL.out; have h2 := HXB.out; exact ⟨by omega, by omega⟩) (hset.obj (by have h1 := HXL.out; omega) (ah _ _ _ rfl))))
       have hx8 := HX8.out
       have hc8 := HC8.out
       have e0 := aa hx8 (j := 0) rfl
       have e1 := aa hx8 (j := 1) rfl
       have e2 := aa hx8 (j := 2) rfl
       have e3 := aa hx8 (j := 3) rfl
       have e4 := aa hx8 (j := 4) rfl
       have g0 := ab hx8 0
       have g1 := ab hx8 1
       have g2 := ab hx8 2
       have g3 := ab hx8 3
       have g4 := ab hx8 4
       have hXBw : w.heap.size + 1 < XB := by have := HXB.out; omega
       clear hx8 hset hstay hstay2 HB8
       by_cases hn2 : n = 2
       ·have HF2 := zh (show R = .ok (.mk 6 0 s [xc, y] pl, r7) from by rw [HE.out]; dsimp only; rw [if_pos hn2])
        subst hn2
        have hn2b : (((2 : Nat) : Int) == 2) = true := by decide
        have f0 := ab hc8 0
        have f1 := ab hc8 1
        have f2 := ab hc8 2
        have f3 := ab hc8 3
        have f4 := ab hc8 4
        have c0 := aa hc8 (j := 0) rfl
        have c1 := aa hc8 (j := 1) rfl
        have c2 := aa hc8 (j := 2) rfl
        have c3 := aa hc8 (j := 3) rfl
        have c4 := aa hc8 (j := 4) rfl
        clear hc8
        go_wp2_with fail
        have hset2 : On (w.heap.size + 1) (set5 (w7.alloc (.cells #[.int .i64 op, .int .i64 num, .string text, .slice s0 nk cap, .int .i64 pos, .int .i64 op7, .int .i64 num7, .string text7, .slice s7 nk7 cap7, .int .i64 pos7] 65)) XB (.int .i64 6) (.int .i64 0) (.string s) (.slice (some ⟨w7.heap.size, 0, none⟩) 2 2) (.int .i64 pl)) (set5 (set5 (w7.alloc (.cells #[.int .i64 op, .int .i64 num, .string text, .slice s0 nk cap, .int .i64 pos, .int .i64 op7, .int .i64 num7, .string text7, .slice s7 nk7 cap7, .int .i64 pos7] 65)) XB (.int .i64 6) (.int .i64 0) (.string s) (.slice (some ⟨w7.heap.size, 0, none⟩) 2 2) (.int .i64 pl)) (w.heap.size + 1) (.int .i64 6) (.int .i64 0) (.string s) (.slice (some ⟨w7.heap.size, 0, none⟩) 2 2) (.int .i64 pl)) := (On.refl _ _).set5 _ _ _ _ _
        refine bodyPost_ret (v := .agg #[.int .i64 6, .int .i64 0, .string s, .slice (some ⟨w7.heap.size, 0, none⟩) 2 2, .int .i64 pl]) (by simp [results, Tryz.results126, go_sem, c0, c1, c2, c3, c4]) rfl ?_
        exact PSays.ok HF2.out ⟨_, _, _, _, _, _, _, rfl, (HREP9.out.keep (Stays.of_ne hset2 (fun h => by have := h.1; omega))).mono (fun b hb => Nat.le_trans (by omega) hb.1)⟩ (HRD8.out.off hset2 (Nat.lt_succ_of_lt HLT.out)) (HON8.out.new hset2 (Nat.le_succ _))
       ·have HF2 := zh (show R = dm en n N g (.mk 6 0 s [xc, y] pl) r7 from by rw [HE.out]; dsimp only; rw [if_neg hn2])
        have hn2b : ((n : Int) == 2) = false := by simp; omega
        clear hn2 hc8
        go_wp2_with fail
        go_roundg g
        case rel => exact ⟨_, r7, _, _, _, _, _, _, _, HF2.out, by have := HNL7.out; have := HLEN.out; have := HLG.out; omega, HRD8.out, HON8.out, HBX9.out, HC9.out, HX9.out, HREP9.out⟩
        case measure => omega
end
end Go.Proofs.YtjblihabklemfaaGreatDoor
