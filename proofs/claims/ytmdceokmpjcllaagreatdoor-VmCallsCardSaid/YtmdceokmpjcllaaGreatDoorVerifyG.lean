/-
  The walk of 'safe'.
-/
import Derived.Test.YtmdceokmpjcllaaGreatDoorVerifyQ
import Derived.Deep.MidRow
import Derived.Deep.WholeRow
import Derived.Deep.LoopGhost
import Derived.Deep.OwnRows
import Derived.Laws.CopyOwn
import Derived.Laws.StructEq
namespace Go.Proofs.YtmdceokmpjcllaaGreatDoor
open Go.RowKit
attribute [local go_sem ↓] Go.wp_at_zero Go.wp_at_succ

/-- a state's cells, as it is made -/
def z58 : Array Value := (Value.slice none 0 0 :: slCells (fun _ => 0)).toArray
def z56 : Array Value := (slCells (fun _ => 0)).toArray
theorem zero58 (w : World) : (zeroValue 110).run Tryz.prog w = .ok (.agg z58) w :=
  (zero_of_info (n := 257) (by kernel_rfl)).1 w
theorem zero56 (w : World) : (zeroValue 108).run Tryz.prog w = .ok (.agg z56) w :=
  (zero_of_info (n := 256) (by kernel_rfl)).1 w
theorem size58 (sv : Value) (sl : Nat → Int) : (Tryz.prog.info? 110).map (·.size) = some (sv :: slCells sl).length := by
  rw [List.length_cons, slCells_len]
  kernel_rfl
theorem size56 (sl : Nat → Int) : (Tryz.prog.info? 108).map (·.size) = some (slCells sl).length := by
  rw [slCells_len]
  kernel_rfl
theorem st_one {w : World} {sv : Value} {st : List Int} (h : StkAt w sv st) (sl : Nat → Int) : ∀ v ∈ sv :: slCells sl, v.oneCell' = true := by
  intro v hv
  rcases List.mem_cons.1 hv with rfl | hv
  · obtain ⟨_, _, rfl, _⟩ := h; rfl
  · exact slCells_one _ v hv
theorem made_cell (W : World) (n i h : Nat) (hi : i < n) (hh : W.heap.size = h) : (W.alloc (.cells (madeCells #[Value.pointer none] n) 106)).cell? ⟨h, i, none⟩ = some (.pointer none) := by
  refine new_cell _ _ _ _ _ _ hh ?_
  simp [madeCells, hi, Nat.mod_one]
theorem new_heap (W : World) (o : Obj) (h : Nat) (hh : W.heap.size = h) : (W.alloc o).heap[h]? = some o := by
  subst hh
  show (W.heap.push _)[W.heap.size]? = _
  simp
theorem old_heap (W : World) (o o' : Obj) (h : Nat) (hh : W.heap[h]? = some o) : (W.alloc o').heap[h]? = some o := by
  rw [Below.heap_alloc _ _ _ (lt_of_block hh)]
  exact hh
theorem eq_slots (d : Nat) (f g : Nat → Int) (w : World) :
    (Op.equalIn (d + 2) 108 (.agg (slCells f).toArray) (.agg (slCells g).toArray)).run Tryz.prog w = .ok ((List.range 256).all fun i => f i == g i) w := by
  obtain ⟨i0, hi0, _, hz1, _⟩ := info_parts infoTy
  have hsz : ∀ w, (Go.sizeOf 28).run Tryz.prog w = .ok 1 w := fun w => by simp [Go.sizeOf, typeInfo, hi0, hz1]
  rw [List.range_eq_range', Op.equalIn]
  simp only [Sem.run_bind, run_underlying Tryz.underlying108, Result.andThen_ok, hsz, Std.Legacy.Range.forIn_eq_forIn_range', Std.Legacy.Range.size, Nat.sub_zero, Nat.add_sub_cancel, Nat.div_one]
  have hl : ∀ i ∈ List.range' 0 256 1, i < 256 := fun i hi => by simpa using (List.mem_range'_1.1 hi).2
  generalize List.range' 0 256 1 = l at hl ⊢
  induction l with
  | nil => simp
  | cons i l ih =>
    have hi : i < 256 := hl i (by simp)
    have px : ∀ (f : Nat → Int), (Go.part 28 (slCells f).toArray (i * 1)).run Tryz.prog w = .ok (.int .i64 (f i)) w := fun f => by
      simp [Go.part, isAgg, run_underlying Tryz.underlying28, slCells_get f i hi]
    have pe : (Op.equalIn (d + 1) 28 (.int .i64 (f i)) (.int .i64 (g i))).run Tryz.prog w = .ok (f i == g i) w := run_equalIn_int w d 28 .i64 .i64 _ _ Tryz.underlying28
    simp only [List.forIn_cons, Sem.run_bind, px, pe, Result.andThen_ok, List.all_cons]
    cases hb : (f i == g i)
    · simp
    · simp only [Bool.not_true, Bool.false_eq_true, if_false, Sem.run_pure, Result.andThen_ok, Bool.true_and]
      exact ih fun j hj => hl j (by simp [hj])
theorem neq_slots (f g : Nat → Int) (w : World) : (binOp .neq 108 (.agg (slCells f).toArray) (.agg (slCells (mergeS f g)).toArray)).run Tryz.prog w = .ok (.bool (changed f g)) w := by
  rw [run_neq_struct, eq_slots 9998 f (mergeS f g) w]
  show Result.ok _ w = _
  congr 2
  rw [List.not_all_eq_any_not]
  unfold changed
  congr 1
  funext j
  unfold mergeS
  by_cases h : f j = g j
  · simp [h]
  · have h2 : (f j == g j) = false := by simp [h]
    simp [bne, h2, h]
theorem fold_set (off : Nat) : ∀ (l : List Value) (k : Nat) (z : Array Value) (i : Nat), (((l.zipIdx k).foldl (fun (a : Array Value) (p : Value × Nat) => a.setIfInBounds (off + p.2) p.1) z)[i]? = if off + k ≤ i ∧ i < off + k + l.length ∧ i < z.size then l[i - off - k]? else z[i]?) ∧ ((l.zipIdx k).foldl (fun (a : Array Value) (p : Value × Nat) => a.setIfInBounds (off + p.2) p.1) z).size = z.size
  | [], k, z, i => by
    refine ⟨?_, rfl⟩
    rw [if_neg (by simp; omega)]
    rfl
  | x :: l, k, z, i => by
    have ih := fold_set off l (k + 1) (z.setIfInBounds (off + k) x) i
    rw [List.zipIdx_cons, List.foldl_cons]
    refine ⟨?_, by rw [ih.2]; simp⟩
    rw [ih.1]
    simp only [Array.size_setIfInBounds, List.length_cons]
    by_cases e : i = off + k
    · subst e
      rw [if_neg (by omega), Array.getElem?_setIfInBounds]
      by_cases h : off + k < z.size
      · have h' : off + k ≤ off + k ∧ off + k < off + k + (l.length + 1) ∧ off + k < z.size := ⟨Nat.le_refl _, by omega, h⟩
        simp [h]
      · have h' : ¬ (off + k ≤ off + k ∧ off + k < off + k + (l.length + 1) ∧ off + k < z.size) := fun q => h q.2.2
        simp [h]
    · rw [Array.getElem?_setIfInBounds, if_neg (Ne.symm e)]
      by_cases h : off + (k + 1) ≤ i ∧ i < off + (k + 1) + l.length ∧ i < z.size
      · rw [if_pos h, if_pos ⟨by omega, by omega, h.2.2⟩, show i - off - k = (i - off - (k + 1)) + 1 by omega, List.getElem?_cons_succ]
      · rw [if_neg h, if_neg (by omega)]
theorem fill_two (sv : Value) (cs : List Value) (hsv : sv.cells = #[sv]) (hcl : cs.length = 256) (places : Nat → Option (Nat × Nat)) (h0 : places 0 = some (0, 1)) (h1 : places 1 = some (1, 256)) (z : Array Value) (hz : z.size = 257) :
    Instr.fill places z [(0, sv), (1, .agg cs.toArray)] = some (sv :: cs).toArray := by
  unfold Instr.fill
  rw [h0]
  simp only [hsv]
  rw [if_neg (by simp [hz])]
  unfold Instr.fill
  rw [h1]
  have hc : (Value.agg cs.toArray).cells = cs.toArray := rfl
  simp only [hc]
  have e1 : (Array.foldl (fun (a : Array Value) (x : Value × Nat) => match x with | (c, j) => a.setIfInBounds (0 + j) c) z (#[sv] : Array Value).zipIdx) = z.setIfInBounds 0 sv := by simp
  rw [e1, if_neg (by simp [hz, hcl])]
  unfold Instr.fill
  congr 1
  have e2 : (Array.foldl (fun (a : Array Value) (x : Value × Nat) => match x with | (c, j) => a.setIfInBounds (1 + j) c) (z.setIfInBounds 0 sv) cs.toArray.zipIdx) = (cs.zipIdx 0).foldl (fun (a : Array Value) (p : Value × Nat) => a.setIfInBounds (1 + p.2) p.1) (z.setIfInBounds 0 sv) := by
    simp
  rw [e2]
  refine Array.ext_getElem? fun i => ?_
  rw [(fold_set 1 cs 0 _ i).1]
  simp only [Array.size_setIfInBounds, hz, hcl]
  cases i with
  | zero => simp [hz]
  | succ i =>
    by_cases h : i < 256
    · rw [if_pos ⟨by omega, by omega, by omega⟩]; simp
    · rw [if_neg (by omega), Array.getElem?_eq_none (by simp [hz]; omega), Array.getElem?_eq_none (by simp [hcl]; omega)]
theorem build_state (sv : Value) (cs : List Value) (hsv : sv.cells = #[sv]) (hcl : cs.length = 256) (w : World) :
    (Instr.build 110 #[(0, sv), (1, .agg cs.toArray)]).run Tryz.prog w = .ok (.agg (sv :: cs).toArray) w := by
  have _hz : (Value.agg z58).cells = z58 := rfl
  have hf := fill_two sv cs hsv hcl (fun i => ([(0, Tryz.t27.size), (1, Tryz.t108.size)] : List (Nat × Nat))[i]?) (by kernel_rfl) (by kernel_rfl) z58 (by simp [z58, slCells_len])
  first
    | (have hz' : (Value.agg Tryz.zeroCells110).cells = z58 := by kernel_rfl
       simp [Instr.build, Sem.run_bind, run_underlying Tryz.underlying110, Go.sizeOf, hz', hf]; done)
    | (simp [Instr.build, Sem.run_bind, zero58, run_underlying Tryz.underlying110, Go.sizeOf, _hz, hf]; done)
theorem wpList_build_state {ops : Array Oper} {rest : List Oper} {op : Oper} {a : Act} {w : World} {Q : Exit → Act → World → Prop} (hgd : op.guard = none) (x y : Operand) (ho : op.op = .build 110 #[(0, x), (1, y)]) (sv : Value) (cs : List Value) (hx : a.eval x = sv) (hy : a.eval y = .agg cs.toArray)
    (hsv : sv.cells = #[sv]) (hcl : cs.length = 256) (h : wpList Tryz.prog ops Q rest (a.put op.dst (.agg (sv :: cs).toArray)) w) : wpList Tryz.prog ops Q (op :: rest) a w :=
  wpList_plain hgd fun _ hK => by
    have hb := build_state sv cs hsv hcl w
    unfold Oper.wp execOp
    simp only [ho, List.map_toArray, List.map_cons, List.map_nil, hx, hy, hb, Sem.run_bind, Result.andThen_ok]
    exact hK _ _ h

/-- a part of a function's code -/
def codeAt : Code → List Bool → Code
  | c, [] => c
  | .seq a _, false :: r => codeAt a r
  | .seq _ b, true :: r => codeAt b r
  | .cond _ a _, false :: r => codeAt a r
  | .cond _ _ b, true :: r => codeAt b r
  | .block _ b, _ :: r => codeAt b r
  | .loop b, _ :: r => codeAt b r
  | .scope b, _ :: r => codeAt b r
  | c, _ => c

theorem StAt.congr {w : World} {k : Nat} {st : List Int} {sl sl' : Nat → Int} (h : StAt w k st sl) (he : ∀ j, j < 256 → sl' j = sl j) : StAt w k st sl' :=
  ⟨h.obj, h.top, fun j hj => by rw [he j hj]; exact h.slot j hj⟩
def midS (a b : Nat → Int) (i : Nat) : Nat → Int := fun j => if j < i then mergeS a b j else a j
theorem index_slots (cs : List Value) (i : Nat) (v : Value) (h : cs[i]? = some v) (hi : i < 256) (w : World) : (Instr.index 108 (.agg cs.toArray) (.int .i64 (i : Int))).run Tryz.prog w = .ok v w := by
  obtain ⟨i0, hi0, _, hz1, _⟩ := info_parts infoTy
  have hh : 0 ≤ (i : Int) ∧ (i : Int) < ((256 : Nat) : Int) := by omega
  simp [Instr.index, run_underlying Tryz.underlying108, run_underlying Tryz.underlying28, asIntOf, Go.part, isAgg, sizeOf, typeInfo, hi0, hz1, h, hh, hi]
theorem midS_zero (a b : Nat → Int) : midS a b 0 = a := by funext j; simp [midS]
theorem midS_at (a b : Nat → Int) (i : Nat) : midS a b i i = a i := by simp [midS]
theorem midS_same (a b : Nat → Int) (i : Nat) (h : a i = b i) : midS a b (i + 1) = midS a b i := by
  funext j
  unfold midS
  by_cases e : j < i
  · rw [if_pos e, if_pos (by omega)]
  · by_cases e2 : j = i
    · subst e2; rw [if_pos (by omega), if_neg e]; simp [mergeS, h]
    · rw [if_neg e, if_neg (by omega)]
theorem midS_other (a b : Nat → Int) (i : Nat) (h : a i ≠ b i) : midS a b (i + 1) = setSl (midS a b i) i 0 := by
  funext j
  unfold midS setSl
  by_cases e2 : j = i
  · subst e2; rw [if_pos (by omega), if_pos rfl]; simp [mergeS, h]
  · rw [if_neg e2]
    show _ = (if j < i then mergeS a b j else a j)
    by_cases e : j < i
    · rw [if_pos e, if_pos (by omega)]
    · rw [if_neg e, if_neg (by omega)]

set_option maxRecDepth 100000 in
set_option maxHeartbeats 1000000 in
theorem slots_wp {C : Code} (hC : C = codeAt ((Tryz.f41.body).getD .skip) [true, false, true, true, true, true, true, true, false, false, false, true, false, true, true, true, true, false, true, false, false, true, true, false, false, true, true, true, true, true, true, false, true]) {Q : Exit → Act → World → Prop} {u0 u1 u2 u3 u4 u5 u6 u7 u8 u9 u10 u12 u13 u14 u15 u16 u17 u18 u19 u20 u21 u22 u23 u24 u25 u26 u27 u28 u29 u30 u31 u32 u33 u34 u35 u36 u37 u38 u39 u40 u41 u42 u43 u44 u45 u46 u47 u48 u49 u50 u51 u52 u53 u54 u55 u56 u57 u58 u59 u60 u61 u62 u63 u64 u65 u66 u67 u68 u69 u70 u71 u72 u73 u74 u75 u76 u77 u78 u79 u80 u81 u82 u83 u84 u85 u86 u87 u88 u89 u90 u91 u92 u93 u94 u95 u96 u97 u98 u99 u100 u101 u102 u103 u104 u105 u106 u107 u108 u109 u110 u111 u112 u113 u114 u115 u116 u117 u118 u119 u120 u123 u124 u125 u126 u127 u128 u129 u130 u131 u132 u133 u134 u135 u136 u137 u138 u139 u140 u141 u142 u143 u144 u145 u146 u147 u148 u149 u150 u151 u152 u153 : Value} (ko : Nat) (ost : List Int) (oa sb : Nat → Int) {w : World} (h : StAt w ko ost oa)
    (hQ : ∀ (u13 u14 u122 u123 u124 u125 u126 u127 u128 u129 u130 u131 u132 u133 u134 u135 u136 u137 u138 u139 : Value) (w' : World), On ko w w' → StAt w' ko ost (mergeS oa sb) → Q .normal ⟨#[u0, u1, u2, u3, u4, u5, u6, u7, u8, u9, u10, .pointer (some ⟨ko, 0, none⟩), u12, u13, u14, u15, u16, u17, u18, u19, u20, u21, u22, u23, u24, u25, u26, u27, u28, u29, u30, u31, u32, u33, u34, u35, u36, u37, u38, u39, u40, u41, u42, u43, u44, u45, u46, u47, u48, u49, u50, u51, u52, u53, u54, u55, u56, u57, u58, u59, u60, u61, u62, u63, u64, u65, u66, u67, u68, u69, u70, u71, u72, u73, u74, u75, u76, u77, u78, u79, u80, u81, u82, u83, u84, u85, u86, u87, u88, u89, u90, u91, u92, u93, u94, u95, u96, u97, u98, u99, u100, u101, u102, u103, u104, u105, u106, u107, u108, u109, u110, u111, u112, u113, u114, u115, u116, u117, u118, u119, u120, .agg (slCells sb).toArray, u122, u123, u124, u125, u126, u127, u128, u129, u130, u131, u132, u133, u134, u135, u136, u137, u138, u139, u140, u141, u142, u143, u144, u145, u146, u147, u148, u149, u150, u151, u152, u153], []⟩ w') :
    Code.wp Tryz.prog C Q ⟨#[u0, u1, u2, u3, u4, u5, u6, u7, u8, u9, u10, .pointer (some ⟨ko, 0, none⟩), u12, u13, u14, u15, u16, u17, u18, u19, u20, u21, u22, u23, u24, u25, u26, u27, u28, u29, u30, u31, u32, u33, u34, u35, u36, u37, u38, u39, u40, u41, u42, u43, u44, u45, u46, u47, u48, u49, u50, u51, u52, u53, u54, u55, u56, u57, u58, u59, u60, u61, u62, u63, u64, u65, u66, u67, u68, u69, u70, u71, u72, u73, u74, u75, u76, u77, u78, u79, u80, u81, u82, u83, u84, u85, u86, u87, u88, u89, u90, u91, u92, u93, u94, u95, u96, u97, u98, u99, u100, u101, u102, u103, u104, u105, u106, u107, u108, u109, u110, u111, u112, u113, u114, u115, u116, u117, u118, u119, u120, .agg (slCells sb).toArray, .int .i64 0, u123, u124, u125, u126, u127, u128, u129, u130, u131, u132, u133, u134, u135, u136, u137, u138, u139, u140, u141, u142, u143, u144, u145, u146, u147, u148, u149, u150, u151, u152, u153], []⟩ w := by
  simp only [Tryz.f41, codeAt, Option.getD] at hC
  subst hC
  have HH := Lib.hid h
  clear h
  obtain ⟨cs, hcs⟩ : ∃ cs, cs = slCells sb := ⟨_, rfl⟩
  have hcl : cs.length = 256 := by rw [hcs, slCells_len]
  have HG : Hid (∀ j, j < 256 → cs[j]? = some (.int .i64 (sb j))) := Lib.hid (fun j hj => by rw [hcs]; exact slCells_get _ _ hj)
  rw [← hcs] at hQ ⊢
  have HQ := Lib.hid hQ
  clear hcs hQ
  go_wp2_with fail
  go_loopg [122] 256 (fun g s W => ∃ i : Nat, i + g = 256 ∧ s = .int .i64 i ∧ On ko w W ∧ StAt W ko ost (midS oa sb i))
  case atStart => exact ⟨0, by omega, rfl, On.refl _ _, by rw [midS_zero]; exact HH.out⟩
  case round =>
    obtain ⟨i, hi, rfl, hon, hst⟩ := hrel
    have HO := Lib.hid hon
    have HS := Lib.hid hst
    cases gk with
    | zero =>
      obtain rfl : i = 256 := by omega
      clear hon hst hi
      go_wp2_with fail
      exact HQ.out _ _ _ _ _ _ _ _ _ _ _ _ _ _ _ _ _ _ _ _ wr HO.out (HS.out.congr (fun j hj => by simp [midS, hj]))
    | succ gk =>
      have hi2 : i < 256 := by omega
      have hi3 : (i : Int) < 256 := by omega
      have hi0 : (0 : Int) ≤ (i : Int) := by omega
      have q1 := (hst.slot i hi2).1
      rw [midS_at] at q1
      have q2 := HG.out i hi2
      have q2 := index_slots cs i _ q2 hi2
      have q3 : wr.frozen? ⟨ko, 1 + i, none⟩ = false := by obtain ⟨arr, ho⟩ := hst.obj; exact frozen_of ho _
      generalize hx : oa i = x at q1
      generalize hy : sb i = y at q2
      have HX := Lib.hid hx
      have HY := Lib.hid hy
      clear hx hy hon hst
      have g1 : IntKind.i64.wrap ((i : Int) + 1) = (i : Int) + 1 := IntWalk.i64_in _ (by omega)
      by_cases hxy : x = y
      · have hd : (x != y) = false := by simp [hxy]
        have HXY := Lib.hid hxy
        clear hxy
        go_wp2_with fail
        go_roundg gk
        case measure => omega
        case rel => exact ⟨i + 1, by omega, by go_num, HO.out, by rw [midS_same _ _ _ (by rw [HX.out, HY.out]; exact HXY.out)]; exact HS.out⟩
      · have hd : (x != y) = true := by simp [hxy]
        have HXY := Lib.hid hxy
        clear hxy
        go_wp2_with fail
        go_roundg gk
        case measure => omega
        case rel => exact ⟨i + 1, by omega, by go_num, HO.out.set _ _, by rw [midS_other _ _ _ (by rw [HX.out, HY.out]; exact HXY.out)]; exact HS.out.setSlot hi2 (by constructor <;> decide)⟩
end Go.Proofs.YtmdceokmpjcllaaGreatDoor
