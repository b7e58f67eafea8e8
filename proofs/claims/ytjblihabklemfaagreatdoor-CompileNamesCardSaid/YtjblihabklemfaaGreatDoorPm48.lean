/-
  Compile: part 48 of its proof: see the last text.
-/
import Derived.Test.YtjblihabklemfaaGreatDoorPm24
import Derived.Test.YtjblihabklemfaaGreatDoorCards
import Derived.Lib.LaidTab
import Derived.ChangeArms
import Derived.Test.YtjblihabklemfaaGreatDoorPm00
import Derived.ProofKit
import Derived.ChangeOld
import Derived.SizedLaws
import Derived.Deep.Slices
import Derived.Test.YtjblihabklemfaaGreatDoorPm02
set_option maxRecDepth 100000
set_option maxHeartbeats 16000000
namespace Go.Proofs.YtjblihabklemfaaGreatDoor
section
open Go.RowKit Go.Lib
theorem jO {H : Type} {enc : TypeId × Value → H} {P : Program} {w : World} {base : Nat} {sp : Nat → Bool} {held : Bool} {fuel : Nat} {t e : TypeId} {n : Nat} {cs : List Value} {ss : List ByteArray} {p : List MemPlace}
    (ht : P.underlying t = some (.array n e)) (he : P.underlying e = some .string) (hce : P.cellsOf e = 1) (hct : P.cellsOf t = n)
    (h : DataW.trod enc P w base sp held fuel t cs = some (.agg (ss.map fun s => .lit (.string s.data.toList)), p)) : cs = ss.map Value.string := by
 cases fuel with
 | zero => simp [DataW.trod] at h
 | succ fuel =>
  simp only [DataW.trod, ht, hce, hct, Nat.mul_one] at h
  split at h
  ·rename_i hl
   obtain ⟨xs, hm, hx⟩ := Option.map_eq_some_iff.1 h
   have hxs : xs.map (·.1) = ss.map fun s => (DataW.lit (.string s.data.toList) : DataW H) := by
    have := congrArg Prod.fst hx
    simpa using this
   have hxl : xs.length = n := by simpa using mapM_length hm
   have hzl : ss.length = n := by
    have := congrArg List.length hxs
    simp at this
    omega
   apply List.ext_getElem?
   intro i
   by_cases hi : i < n
   ·obtain ⟨b, hb, hf⟩ := mapM_at hm i i (by simp [hi])
    obtain ⟨s, hc, rfl, _⟩ := DataW.trod_string he hf
    have h1 : cs[i]? = some (.string s) := by
     have := congrArg (·[0]?) hc
     simpa [List.getElem?_take, List.getElem?_drop] using this
    have h2 : (xs.map (·.1))[i]? = some (DataW.lit (.string s.data.toList) : DataW H) := by simp [hb]
    rw [hxs] at h2
    simp only [List.getElem?_map, Option.map_eq_some_iff, DataW.lit.injEq, Lit.string.injEq] at h2
    obtain ⟨s', hs', e⟩ := h2
    have : s' = s := WideShapes.bytes_inj e
    subst this
    simp [h1, hs']
   ·rw [List.getElem?_eq_none (by omega), List.getElem?_eq_none (by simp; omega)]
  ·cases h
theorem gSigns : Tryz.prog.globalNamed "covenant/code.signs" = some 0 := by kernel_rfl
theorem gSignsType : (Tryz.prog.globals[0]?).map (·.type) = some 169 := by kernel_rfl
theorem rj : Tryz.prog.cellsOf 169 = 13 := by kernel_rfl
theorem ry : Tryz.prog.cellsOf 9 = 1 := by kernel_rfl
theorem oR {W : World} {rest : List (String × DataW Unit)} (h : laidMet Tryz.prog (("covenant/code.signs", Rows.laid_covenant_code_signs) :: rest) W) : Signs W := by
 obtain ⟨ps, ⟨g', t', cs, fuel, p, q, hg', ht', hvar, hd, _, _⟩, _⟩ := h
 obtain rfl := Option.some.inj (gSigns.symm.trans hg')
 obtain rfl := Option.some.inj (gSignsType.symm.trans ht')
 have hcs := jO (ss := signRow) Tryz.underlying169 Tryz.underlying9 ry rj hd
 intro i hi
 have := World.var?_cell gSigns hvar i
 rw [← Array.getElem?_toList, hcs, List.getElem?_map] at this
 rw [this]
 match i, hi with
 | 0, _ | 1, _ | 2, _ | 3, _ | 4, _ | 5, _ | 6, _ | 7, _ | 8, _ | 9, _ | 10, _ | 11, _ | 12, _ => rfl
end
section
open Go.ChangeShapes Go.WideShapes Go.ChangeAt Go.RowKit
def TZ (P : Program) (w : World) (n : Nat) (t : TypeId) (cs : List Value) : Prop :=
 ∃ (H : Type) (enc : TypeId × Value → H) (x : DataW H × List MemPlace), DataW.trod enc P w 0 (fun _ => true) true n t cs = some x ∧ ∀ k ∈ x.1.weights P t, k ≤ reachBytes
variable {P : Program} {w : World} {n : Nat} {t : TypeId} {cs : List Value}
theorem TZ.of {H : Type} {enc : TypeId × Value → H} {v : Value} {d : DataW H} {p : List MemPlace} {ts : List TypeId} {ds : List (DataW H)} (h : DataW.Trod enc P w 0 (fun _ => true) true t v d p)
    (hs : (DataW.weightsEach P ts ds).all (· ≤ reachBytes) = true) {j : Nat} (ht : ts[j]? = some t) (hd : ds[j]? = some d) : ∃ n, TZ P w n t v.cells.toList := by
 obtain ⟨m, hm⟩ := h
 refine ⟨m, H, enc, _, hm, fun k hk => ?_⟩
 have := List.all_eq_true.1 hs k (DataW.weights_mem_each ht hd k hk)
 simpa using this
theorem TZ.int {k : IntKind} (ht : P.underlying t = some (.int k)) (h : TZ P w n t cs) : ∃ i, cs = [.int k i] ∧ (Lit.int k i).wf = true := by
 obtain ⟨H, enc, x, hx, _⟩ := h
 obtain ⟨i, h1, _, h2⟩ := DataW.trod_int ht hx
 exact ⟨i, h1, h2⟩
theorem TZ.bool (ht : P.underlying t = some .bool) (h : TZ P w n t cs) : ∃ b, cs = [.bool b] := by
 obtain ⟨H, enc, x, hx, _⟩ := h
 obtain ⟨b, h1, _⟩ := DataW.trod_bool ht hx
 exact ⟨b, h1⟩
theorem TZ.string (ht : P.underlying t = some .string) (h : TZ P w n t cs) : ∃ s : ByteArray, cs = [.string s] ∧ s.size ≤ reachBytes := by
 obtain ⟨H, enc, x, hx, hs⟩ := h
 obtain ⟨s, h1, h2, _⟩ := DataW.trod_string ht hx
 refine ⟨s, h1, ?_⟩
 rw [h2] at hs
 have := hs s.data.toList.length (by simp [DataW.weights])
 simpa using this
theorem iV {H : Type} {fs : Array Field} {xs : List (DataW H × List MemPlace)} {i : Nat} {f : Field} {y : DataW H × List MemPlace} (hf : fs[i]? = some f) (hy : xs[i]? = some y) :
    ∀ k ∈ y.1.weights P f.type, k ∈ DataW.weightsEach P (fs.toList.map (·.type)) (xs.map (·.1)) := fun k hk =>
 DataW.weights_mem_each (j := i) (by simp [hf]) (by simp [hy]) k hk
theorem TZ.struct {fs : Array Field} (ht : P.underlying t = some (.struct fs)) (h : TZ P w n t cs) :
    ∃ m, n = m + 1 ∧ cs.length = P.cellsOf t ∧ ∀ (i : Nat) (f : Field), fs[i]? = some f → TZ P w m f.type ((cs.drop f.offset).take (P.cellsOf f.type)) := by
 obtain ⟨H, enc, x, hx, hs⟩ := h
 obtain ⟨xs, m, h1, hxe, h2, h3, h4⟩ := DataW.trod_struct ht hx
 refine ⟨m, h1, h2, fun i f hf => ?_⟩
 have hi : i < fs.size := (Array.getElem?_eq_some_iff.1 hf).1
 have h5 := h4 i f hf
 have h6 : xs[i]? = some xs[i] := List.getElem?_eq_getElem (by omega)
 rw [h6] at h5
 refine ⟨H, enc, _, h5, fun k hk => hs k ?_⟩
 rw [hxe]
 simp only [DataW.weights, ht]
 exact iV hf h6 k hk
theorem jB {H : Type} {e : TypeId} {ds : List (DataW H)} {i : Nat} {d : DataW H} (hd : ds[i]? = some d) : ∀ k ∈ d.weights P e, k ∈ DataW.weightsAll P e ds := by
 intro k hk
 induction ds generalizing i with
 | nil => simp at hd
 | cons x r ih =>
  simp only [DataW.weightsAll, List.mem_append]
  cases i with
  | zero => simp at hd; subst hd; exact .inl hk
  | succ i => exact .inr (ih (by simpa using hd))
theorem TZ.slice {e : TypeId} (ht : P.underlying t = some (.slice e)) (hc : 0 < P.cellsOf e) (h : TZ P w n t cs) :
    ∃ a len cap, cs = [.slice a len cap] ∧ len ≤ cap ∧ cap ≤ maxLen ∧ cap * P.bytesOf e ≤ reachBytes ∧ (a = none → len = 0 ∧ cap = 0) ∧ (0 < cap → ∃ b off, a = some ⟨b, off, none⟩ ∧ b < w.heap.size) ∧
     ∀ b off, a = some ⟨b, off, none⟩ → ∀ i, i < len → ∃ m cs', n = m + 1 ∧ cs'.length = P.cellsOf e ∧ (∀ j, j < P.cellsOf e → w.cell? ⟨b, off + i * P.cellsOf e + j, none⟩ = cs'[j]?) ∧ TZ P w m e cs' := by
 obtain ⟨H, enc, x, hx, hs⟩ := h
 rcases DataW.trod_slice ht hx with ⟨rfl, _⟩ | ⟨a, len, cap, elems, rest, m, hm, rfl, hxe, _, hl, hcm, hel, hat, hsp, _⟩
 ·exact ⟨none, 0, 0, rfl, Nat.le_refl _, Nat.zero_le _, by simp, fun _ => ⟨rfl, rfl⟩, fun h => absurd h (by omega), fun b off h => by cases h⟩
 ·obtain ⟨hrl, hra⟩ := hsp rfl
  have hcell : ∀ k, k < cap → ∃ cs' y, w.cells? 0 (a.add (k * P.cellsOf e)) (P.cellsOf e) = some cs' ∧ DataW.trod enc P w 0 (fun _ => true) true m e cs' = some y ∧ (k < len → elems[k]? = some y) := fun k hk => by
   by_cases hkl : k < len
   ·have h1 := hat k hkl
    rw [List.getElem?_eq_getElem (by omega), Option.bind_eq_some_iff] at h1
    obtain ⟨cs', h2, h3⟩ := h1
    exact ⟨cs', _, h2, h3, fun _ => List.getElem?_eq_getElem (by omega)⟩
   ·have h1 := hra (k - len) (by omega)
    rw [List.getElem?_eq_getElem (by omega), Option.bind_eq_some_iff] at h1
    obtain ⟨cs', h2, h3⟩ := h1
    rw [show len + (k - len) = k by omega] at h2
    exact ⟨cs', _, h2, h3, fun h => absurd h hkl⟩
  have hw : x.1.weights P t = (elems.length + rest.length) * P.bytesOf e :: (DataW.weightsAll P e (elems.map (·.1)) ++ DataW.weightsAll P e (rest.map (·.1))) := by
   rw [hxe]
   simp only [DataW.weights, ht, List.length_map]
  have hcap : cap * P.bytesOf e ≤ reachBytes := by
   have := hs ((elems.length + rest.length) * P.bytesOf e) (by rw [hw]; exact List.mem_cons_self ..)
   rwa [show elems.length + rest.length = cap by omega] at this
  refine ⟨some a, len, cap, rfl, hl, hcm, hcap, (fun h => by cases h), fun h0 => ?_, fun b off hab i hi => ?_⟩
  ·obtain ⟨cs', y, h1, _⟩ := hcell 0 h0
   obtain ⟨_, h2, h3⟩ := World.cells?_some h1
   have h4 := h3 0 hc
   rw [List.getElem?_eq_getElem (by omega)] at h4
   obtain ⟨b, off, spot⟩ := a
   have hs : spot = none := by simpa [Addr.add] using World.cell?_spot h4
   subst hs
   refine ⟨b, off, rfl, ?_⟩
   rw [add_plain, add_plain] at h4
   exact am h4
  ·injection hab with hab
   subst hab
   obtain ⟨cs', y, h1, h2, hy⟩ := hcell i (by omega)
   obtain ⟨_, h3, h4⟩ := World.cells?_some h1
   refine ⟨m, cs', hm, h3, fun j hj => ?_, H, enc, y, h2, fun k hk => hs k ?_⟩
   ·have h5 := h4 j hj
    rw [add_plain, add_plain] at h5
    exact h5
   ·rw [hw]
    refine List.mem_cons_of_mem _ (List.mem_append_left _ ?_)
    exact jB (i := i) (by simp [hy hi]) k hk
end
section
open Go.ChangeShapes Go.WideShapes Go.ChangeAt Go.RowKit
def ky (w : World) (b o : Nat) : UInt8 := match w.cell? ⟨b, o, none⟩ with
 | some (.int _ z) => UInt8.ofNat z.toNat
 | _ => 0
theorem mg {w : World} {n : Nat} {cs : List Value} (h : TZ Tryz.prog w n 22 cs) :
    ∃ (a : Option Addr) (cap : Nat) (s : List UInt8), cs = [.slice a s.length cap] ∧ s.length ≤ cap ∧ s.length ≤ 1152921504606846976 ∧ SrcAt w a s := by
 obtain ⟨a, len, cap, rfl, hl, _, hr, _, hb, hat⟩ := TZ.slice Tryz.underlying22 (by rw [show Tryz.prog.cellsOf 5 = 1 by kernel_rfl]; decide) h
 have hby : Tryz.prog.bytesOf 5 = 1 := by kernel_rfl
 rw [hby, Nat.mul_one] at hr
 have hlen : len ≤ 1152921504606846976 := Nat.le_trans hl (Nat.le_trans hr (by decide))
 by_cases h0 : len = 0
 ·subst h0
  exact ⟨a, cap, [], rfl, Nat.zero_le _, Nat.zero_le _, fun h => absurd h (Nat.lt_irrefl _)⟩
 obtain ⟨b, off, rfl, hlt⟩ := hb (by omega)
 refine ⟨_, cap, (List.range len).map fun i => ky w b (off + i), by simp, by simpa using hl, by simpa using hlen, fun _ => ⟨b, off, rfl, hlt, fun i hi => ?_⟩⟩
 have hi2 : i < len := by simpa using hi
 obtain ⟨m, cs', _, hcl, hcell, htz⟩ := hat b off rfl i hi2
 have hce : Tryz.prog.cellsOf 5 = 1 := by kernel_rfl
 rw [hce] at hcell
 obtain ⟨z, rfl, hwf⟩ := htz.int Tryz.underlying5
 have hc := hcell 0 (by decide)
 rw [Nat.mul_one, Nat.add_zero] at hc
 have hz : 0 ≤ z ∧ z ≤ 255 := by simpa [Lit.wf, IntKind.min, IntKind.max, IntKind.signed, IntKind.bits] using hwf
 have hg : ((List.range len).map fun i => ky w b (off + i)).getD i 0 = ky w b (off + i) := by
  rw [List.getD_eq_getElem?_getD, List.getElem?_map, List.getElem?_range hi2]
  rfl
 rw [hg]
 unfold ky
 rw [hc]
 simp only [List.getElem?_cons_zero, Option.some.injEq, Value.int.injEq, true_and]
 have : (UInt8.ofNat z.toNat).toNat = z.toNat := by simp; omega
 rw [this]
 omega
end
end Go.Proofs.YtjblihabklemfaaGreatDoor
