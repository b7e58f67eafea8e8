/-
  The live question that every statement's head asks: it is answered as it must be.
  Rows that a literal lays: expressions, statements, functions.
-/
import Derived.Test.YtpiamiaigjlafaaChkZ
import Derived.KernelRfl
import Derived.Lib.SlBytesConst
namespace Go.Proofs.Ytpiamiaigjlafaa

section
open Go.RowKit

def src1 : List UInt8 := [102, 110, 32, 102, 40, 97, 58, 32, 105, 110, 116, 41, 58, 32, 105, 110, 116, 32, 123, 32, 114, 101, 116, 117, 114, 110, 32, 97, 32, 43, 32, 49, 59, 32, 125]
def src2 : List UInt8 := [102, 110, 32, 102, 40, 41, 58, 32, 105, 110, 116, 32, 123, 32, 125]
def okOne (r : Except (Int × Int) (List Fn)) : Bool := match r with | .ok [_] => true | _ => false
def errIs (r : Except (Int × Int) (List Fn)) (e p : Int) : Bool := match r with | .error (a, b) => a == e && b == p | _ => false
set_option maxRecDepth 100000 in
theorem front1 : ∃ f, frontT src1 = .ok [f] := by
  have h : okOne (frontT src1) = true := by kernel_rfl
  unfold okOne at h
  split at h
  · rename_i f e
    exact ⟨f, e⟩
  · cases h
set_option maxRecDepth 100000 in
theorem front2 : frontT src2 = .error (54, 0) := by
  have h : errIs (frontT src2) 54 0 = true := by kernel_rfl
  unfold errIs at h
  split at h
  · rename_i a b e
    rw [Bool.and_eq_true] at h
    rw [e, eq_of_beq h.1, eq_of_beq h.2]
  · cases h
theorem src_new (W : World) (s : List UInt8) (t : TypeId) (arr : Array Value) (fz : Nat × Nat) (ha : arr = (s.map fun b => Value.int .u8 (b.toNat : Int)).toArray) : SrcAt (W.alloc (.cells arr t fz)) (some ⟨W.heap.size, 0, none⟩) s := fun _ => by
  refine ⟨_, 0, rfl, by rw [size_alloc]; exact Nat.lt_succ_self _, fun i hi => ?_⟩
  rw [Nat.zero_add]
  refine cell_of (new_heap _ _ _ rfl) ?_
  subst ha
  simp [hi, List.getD_eq_getElem?_getD]
set_option maxRecDepth 100000 in
set_option maxHeartbeats 8000000 in
/-- the head's answer -/
theorem head_any (w : World) : Calls Try.prog 8 #[] w fun e w' => e = .returned (.bool true) ∧ Below w.heap.size w w' := by
  have HF1 := Lib.hid (fun (W : World) (b : Nat) (hs : SrcAt W (some ⟨b, 0, none⟩) src1) => (front_any (some ⟨b, 0, none⟩) 35 src1 W hs (by decide) (by decide) : Calls Try.prog 9 #[.slice (some ⟨b, 0, none⟩) 35 35] W (ParseSays W (frontT src1))))
  have HF2 := Lib.hid (fun (W : World) (b : Nat) (hs : SrcAt W (some ⟨b, 0, none⟩) src2) => (front_any (some ⟨b, 0, none⟩) 15 src2 W hs (by decide) (by decide) : Calls Try.prog 9 #[.slice (some ⟨b, 0, none⟩) 15 15] W (ParseSays W (frontT src2))))
  have HF3 := Lib.hid (fun (W : World) => (check_ck [] (fun f hf => by cases hf) W (.slice none 0 0) (RepFns.nil Any W)))
  have hcv := fun w C n c => Lib.run_convert_bytes_const (P := Try.prog) w 22 5 C n c (by kernel_rfl) (by kernel_rfl)
  go_enter Try.func8, Try.ntmps8
  go_wp2_with fail
  refine (HF1.out _ _ (src_new _ _ _ _ _ (by kernel_rfl))).mono ?_
  rintro e w1 ⟨hres, hb1⟩
  obtain ⟨f, hf⟩ := front1
  rw [hf] at hres
  obtain ⟨v, rfl, hrep⟩ := hres
  have hv : ∃ s c, v = .slice s 1 c := by
    obtain ⟨cs, ⟨a, c, e, _⟩, _⟩ := hrep
    exact ⟨a, c, e⟩
  obtain ⟨sv, cv, rfl⟩ := hv
  have HB1 := Lib.hid ((up_alloc (Below.refl w.heap.size w) _).trans (hb1.mono (up_alloc (Below.refl w.heap.size w) _).size))
  clear hrep hf hb1
  go_upto_region 2 with fail
  have HBOX : Hid ((w1.alloc (.cells #[.slice sv 1 cv] 26)).heap[w1.heap.size]? = some (.cells #[.slice sv 1 cv] 26 (0, 0))) := Lib.hid (new_heap _ _ _ rfl)
  replace HB1 : Hid (Below w.heap.size w (w1.alloc (.cells #[.slice sv 1 cv] 26))) := Lib.hid (HB1.out.trans ((up_alloc (Below.refl _ _) _).mono HB1.out.size))
  generalize (w1.alloc (.cells #[.slice sv 1 cv] 26)) = w2 at *
  generalize w1.heap.size = PB at *
  go_wp2_with fail
  refine (HF2.out _ _ (src_new _ _ _ _ _ (by kernel_rfl))).mono ?_
  rintro e w3 ⟨hres, hb3⟩
  rw [front2] at hres
  obtain ⟨_, rfl⟩ := hres
  have hb3' := up_trans (up_alloc (Below.refl w2.heap.size w2) _) hb3
  replace HBOX := Lib.hid ((hb3'.block _ (lt_block HBOX.out)).trans HBOX.out)
  replace HB1 := Lib.hid (HB1.out.trans (hb3'.mono HB1.out.size))
  clear hb3 hb3'
  go_upto_region 3 with fail
  replace HBOX : Hid ((w3.alloc (.cells #[.slice none 0 0] 26)).heap[PB]? = some (.cells #[.slice sv 1 cv] 26 (0, 0))) := Lib.hid (old_heap _ _ _ _ HBOX.out)
  replace HB1 : Hid (Below w.heap.size w (w3.alloc (.cells #[.slice none 0 0] 26))) := Lib.hid (HB1.out.trans ((up_alloc (Below.refl _ _) _).mono HB1.out.size))
  generalize (w3.alloc (.cells #[.slice none 0 0] 26)) = w4 at *
  go_wp2_with fail
  refine (HF3.out _).mono ?_
  rintro e w5 ⟨rfl, hb5⟩
  rw [show checkC [] = (0, 0) by kernel_rfl]
  replace HBOX := Lib.hid ((hb5.block _ (lt_block HBOX.out)).trans HBOX.out)
  replace HB1 := Lib.hid (HB1.out.trans (hb5.mono HB1.out.size))
  clear hb5
  have p0 : w5.cell? ⟨PB, 0, none⟩ = some (.slice sv 1 cv) := cell_of HBOX.out (j := 0) rfl
  go_wp2_with fail
  exact bodyPost_ret (v := .bool true) (by simp [results, Try.results8, go_sem]) rfl ⟨rfl, HB1.out⟩
end

section
open Go.RowKit

theorem row_lit {S : Nat → Prop} {W : World} {b : Nat} {arr : Array Value} {t : TypeId} {fz : Nat × Nat} (sz n : Nat) (h : W.heap[b]? = some (.cells arr t fz)) (hS : S b) (hn : n ≤ maxLen) (hs : arr.size = n * sz) :
    RowOf S W (.slice (some ⟨b, 0, none⟩) n n) sz n (fun i => (arr.toList.drop (i * sz)).take sz) := by
  refine ⟨_, n, rfl, Nat.le_refl _, hn, fun h => (by cases h), fun _ => ⟨b, 0, rfl, hS, lt_block h, fun i hi j hj => ?_⟩, fun i hi => ?_⟩
  · have hlt : i * sz + j < arr.size := by
      rw [hs]
      calc i * sz + j < i * sz + sz := by omega
        _ = (i + 1) * sz := by rw [Nat.add_mul, Nat.one_mul]
        _ ≤ n * sz := Nat.mul_le_mul_right _ hi
    rw [Nat.zero_add]
    rw [cell_of h (j := i * sz + j) (u := arr[i * sz + j]) (by simp [hlt])]
    simp [hj]
  · have : i * sz + sz ≤ n * sz := by
      rw [show i * sz + sz = (i + 1) * sz by rw [Nat.add_mul, Nat.one_mul]]
      exact Nat.mul_le_mul_right _ hi
    simp [hs]
    omega
theorem exs_lit1 {W : World} {b : Nat} {op num pos : Int} {text : ByteArray} {v : Value} {kids : List Ex} {t : TypeId} {fz : Nat × Nat} (h : W.heap[b]? = some (.cells #[.int .i64 op, .int .i64 num, .string text, v, .int .i64 pos] t fz)) (hk : RepExs Any W v kids) :
    RepExs Any W (.slice (some ⟨b, 0, none⟩) 1 1) [.mk op num text kids pos] :=
  ⟨_, row_lit 5 1 h trivial (by decide) rfl, fun i hi => by
    obtain rfl : i = 0 := by simp at hi; omega
    exact RepEx.of hk⟩
theorem st_mk {S : Nat → Prop} {W : World} {op pos : Int} {text : ByteArray} {ve vb vl : Value} {es : List Ex} {body els : List St} (he : RepExs S W ve es) (hb : RepSts S W vb body) (hl : RepSts S W vl els) : RepSt S W [.int .i64 op, .string text, ve, vb, vl, .int .i64 pos] (.mk op text es body els pos) := by
  obtain ⟨cb, hb, hb2⟩ := hb
  obtain ⟨cl, hl, hl2⟩ := hl
  exact .mk cb cl he hb hb2 hl hl2
theorem sts_lit1 {W : World} {b : Nat} {x0 x1 x2 x3 x4 x5 : Value} {s : St} {t : TypeId} {fz : Nat × Nat} (h : W.heap[b]? = some (.cells #[x0, x1, x2, x3, x4, x5] t fz)) (hs : RepSt Any W [x0, x1, x2, x3, x4, x5] s) :
    RepSts Any W (.slice (some ⟨b, 0, none⟩) 1 1) [s] :=
  ⟨_, row_lit 6 1 h trivial (by decide) rfl, fun i hi => by
    obtain rfl : i = 0 := by simp at hi; omega
    exact hs⟩
theorem sts_lit2 {W : World} {b : Nat} {x0 x1 x2 x3 x4 x5 y0 y1 y2 y3 y4 y5 : Value} {s s' : St} {t : TypeId} {fz : Nat × Nat} (h : W.heap[b]? = some (.cells #[x0, x1, x2, x3, x4, x5, y0, y1, y2, y3, y4, y5] t fz)) (hs : RepSt Any W [x0, x1, x2, x3, x4, x5] s) (hs' : RepSt Any W [y0, y1, y2, y3, y4, y5] s') :
    RepSts Any W (.slice (some ⟨b, 0, none⟩) 2 2) [s, s'] :=
  ⟨_, row_lit 6 2 h trivial (by decide) rfl, fun i hi => by
    rcases (show i = 0 ∨ i = 1 by simp at hi; omega) with rfl | rfl
    · exact hs
    · exact hs'⟩
theorem sts_lit3 {W : World} {b : Nat} {x0 x1 x2 x3 x4 x5 y0 y1 y2 y3 y4 y5 z0 z1 z2 z3 z4 z5 : Value} {s s' s'' : St} {t : TypeId} {fz : Nat × Nat} (h : W.heap[b]? = some (.cells #[x0, x1, x2, x3, x4, x5, y0, y1, y2, y3, y4, y5, z0, z1, z2, z3, z4, z5] t fz)) (hs : RepSt Any W [x0, x1, x2, x3, x4, x5] s) (hs' : RepSt Any W [y0, y1, y2, y3, y4, y5] s') (hs'' : RepSt Any W [z0, z1, z2, z3, z4, z5] s'') :
    RepSts Any W (.slice (some ⟨b, 0, none⟩) 3 3) [s, s', s''] :=
  ⟨_, row_lit 6 3 h trivial (by decide) rfl, fun i hi => by
    rcases (show i = 0 ∨ i = 1 ∨ i = 2 by simp at hi; omega) with rfl | rfl | rfl
    · exact hs
    · exact hs'
    · exact hs''⟩
theorem fns_lit1 {W : World} {b : Nat} {x0 x1 x2 x3 x4 : Value} {f : Fn} {t : TypeId} {fz : Nat × Nat} (h : W.heap[b]? = some (.cells #[x0, x1, x2, x3, x4] t fz)) (hf : RepFn Any W [x0, x1, x2, x3, x4] f) :
    RepFns Any W (.slice (some ⟨b, 0, none⟩) 1 1) [f] :=
  ⟨_, row_lit 5 1 h trivial (by decide) rfl, fun i hi => by
    obtain rfl : i = 0 := by simp at hi; omega
    exact hf⟩
theorem fn_mk {S : Nat → Prop} {W : World} {nm : ByteArray} {rs pos : Int} {vp vb : Value} {ps : List (ByteArray × Int)} {body : List St} (hp : RepPas S W vp ps) (hb : RepSts S W vb body) : RepFn S W [.string nm, vp, .int .i64 rs, vb, .int .i64 pos] ⟨nm, ps, rs, body, pos⟩ := ⟨_, _, rfl, hp, hb⟩
theorem pas_nil (S : Nat → Prop) (W : World) : RepPas S W (.slice none 0 0) [] := ⟨fun _ => [], RowOf.nil _ _ _ _, fun i hi => absurd hi (by simp)⟩
end
end Go.Proofs.Ytpiamiaigjlafaa
