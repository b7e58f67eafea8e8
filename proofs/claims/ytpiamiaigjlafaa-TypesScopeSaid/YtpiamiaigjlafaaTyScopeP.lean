/-
  TypesScope in plain words: a name of a block, behind it and within it.
-/
import Derived.Test.YtpiamiaigjlafaaTyHead
namespace Go.Proofs.Ytpiamiaigjlafaa
open Go.RowKit

def oneX : Ex := .mk 1 1 ⟨#[]⟩ [] 0
def letX (name : ByteArray) : St := .mk 1 name [oneX] [] [] 0
def setX (name : ByteArray) : St := .mk 2 name [oneX] [] [] 9
def boolX : Ex := .mk 2 0 ⟨#[]⟩ [] 0
def blkA (name : ByteArray) : St := .mk 3 ⟨#[]⟩ [boolX] [letX name] [] 0
def blkB (name : ByteArray) : St := .mk 3 ⟨#[]⟩ [boolX] [letX name, blkA name] [] 0
def fnX (b : List St) : Fn := ⟨⟨#[]⟩, [], 0, b, 0⟩
def boxX (within : Bool) (name : ByteArray) : St := if within then blkB name else blkA name
theorem letX_new (F : Funs) (name : ByteArray) (v : View) (h : lookL v name = none) : stmtC F 0 (letX name) v = (putL v name (1, false), okF) := by
  simp [letX, oneX, stmtC, shapedC, exprC, orF, noC, okF, kidsN, St.exprs, St.body, St.els, St.op, h]
theorem letX_old (F : Funs) (name : ByteArray) (v : View) (h : (lookL v name).isSome = true) : (stmtC F 0 (letX name) v).2 = (53, 0) := by
  simp [letX, oneX, stmtC, shapedC, exprC, orF, noC, okF, kidsN, St.exprs, St.body, St.els, St.op, h]
theorem setX_none (F : Funs) (name : ByteArray) (v : View) (h : lookL v name = none) : stmtC F 0 (setX name) v = (v, (52, 9)) := by
  simp [setX, oneX, stmtC, shapedC, orF, noC, St.exprs, St.body, St.els, St.op, h]
theorem setX_some (F : Funs) (name : ByteArray) (v : View) (h : lookL v name = some (1, false)) : stmtC F 0 (setX name) v = (v, okF) := by
  simp [setX, oneX, stmtC, shapedC, exprC, mustC, mustOf, orF, noC, okF, kidsN, St.exprs, St.body, St.els, St.op, h]
theorem if_true (F : Funs) (v : View) (b : List St) : stmtC F 0 (.mk 3 ⟨#[]⟩ [boolX] b [] 0) v = (v, blockC F 0 b v) := by
  have h : blockC F 0 [] v = okF := by rw [blockC]
  simp [boolX, stmtC, shapedC, exprC, mustC, mustOf, orF, noC, okF, kidsN, St.exprs, St.op, h]
  intro h0
  exact (block_clean F 0 b v h0).symm
theorem block_cons (F : Funs) (s : St) (l : List St) (v : View) : blockC F 0 (s :: l) v = if (stmtC F 0 s v).2.1 ≠ 0 then (stmtC F 0 s v).2 else blockC F 0 l (stmtC F 0 s v).1 := by rw [blockC]
theorem block_nil (F : Funs) (v : View) : blockC F 0 [] v = okF := by rw [blockC]
theorem blkA_ok (F : Funs) (name : ByteArray) (v : View) (h : lookL v name = none) : stmtC F 0 (blkA name) v = (v, okF) := by
  rw [blkA, if_true, block_cons, letX_new F name v h]
  simp [okF, block_nil]
theorem blkA_old (F : Funs) (name : ByteArray) (v : View) (h : (lookL v name).isSome = true) : stmtC F 0 (blkA name) v = (v, (53, 0)) := by
  rw [blkA, if_true, block_cons, letX_old F name v h]
  simp
theorem look_put (name : ByteArray) (v : View) (x : Int × Bool) : lookL (putL v name x) name = some x := by
  rw [lookL_put, if_pos rfl]
theorem blkB_no (F : Funs) (name : ByteArray) (v : View) (h : lookL v name = none) : stmtC F 0 (blkB name) v = (v, (53, 0)) := by
  rw [blkB, if_true, block_cons, letX_new F name v h]
  simp only [okF, ne_eq, not_true, if_false]
  rw [block_cons, blkA_old F name _ (by rw [look_put]; rfl)]
  simp
theorem blkB_old (F : Funs) (name : ByteArray) (v : View) (h : (lookL v name).isSome = true) : stmtC F 0 (blkB name) v = (v, (53, 0)) := by
  rw [blkB, if_true, block_cons, letX_old F name v h]
  simp
theorem check_fn (b : List St) (h : ¬ 64 < wrap64 (namedC 0 b)) : checkC [fnX b] = blockC [(⟨#[]⟩, fnX b)] 0 b [] := by
  have hf : funsC [fnX b] [] = (okF, [(⟨#[]⟩, fnX b)]) := by
    rw [funsC, if_neg (by simp [lookL]), funsC]
    rfl
  unfold checkC
  rw [if_neg (by simp), hf]
  simp only [okF, ne_eq, not_true, if_false]
  rw [eachC, eachC]
  rw [show funcC [(⟨#[]⟩, fnX b)] (fnX b) = orF (blockC [(⟨#[]⟩, fnX b)] 0 b []) okF by
    unfold funcC
    simp [fnX, paramsC, okF, h, noC]]
  rw [or_ok (block_clean _ _ _ _), or_ok (block_clean _ _ _ _)]
theorem scope1 (name : ByteArray) : checkC [fnX [blkA name, blkA name]] = (0, 0) := by
  rw [check_fn _ (by simp [namedC, namedS, blkA, letX, wrap64])]
  rw [block_cons, blkA_ok _ _ _ rfl]
  simp only [okF, ne_eq, not_true, if_false]
  rw [block_cons, blkA_ok _ _ _ rfl]
  simp [okF, block_nil]
theorem scope2 (name : ByteArray) : checkC [fnX [blkA name, setX name]] = (52, 9) := by
  rw [check_fn _ (by simp [namedC, namedS, blkA, letX, setX, wrap64])]
  rw [block_cons, blkA_ok _ _ _ rfl]
  simp only [okF, ne_eq, not_true, if_false]
  rw [block_cons, setX_none _ _ _ rfl]
  simp
theorem scope3 (name : ByteArray) (s : St) (hs : ∀ F v, (lookL v name).isSome = true → stmtC F 0 s v = (v, (53, 0))) (hn : ¬ 64 < wrap64 (namedC 0 [letX name, setX name, s])) : checkC [fnX [letX name, setX name, s]] = (53, 0) := by
  rw [check_fn _ hn]
  rw [block_cons, letX_new _ _ _ rfl]
  simp only [okF, ne_eq, not_true, if_false]
  rw [block_cons, setX_some _ _ _ (look_put _ _ _)]
  simp only [okF, ne_eq, not_true, if_false]
  rw [block_cons, hs _ _ (by rw [look_put]; rfl)]
  simp
theorem scope4 (name : ByteArray) (s : St) (hn : ¬ 64 < wrap64 (namedC 0 [blkB name, s])) : checkC [fnX [blkB name, s]] = (53, 0) := by
  rw [check_fn _ hn]
  rw [block_cons, blkB_no _ _ _ rfl]
  simp
theorem scope3A (name : ByteArray) : checkC [fnX [letX name, setX name, blkA name]] = (53, 0) := scope3 name _ (fun F v h => blkA_old F name v h) (by simp [namedC, namedS, blkA, letX, setX, wrap64])
theorem scope3B (name : ByteArray) : checkC [fnX [letX name, setX name, blkB name]] = (53, 0) := scope3 name _ (fun F v h => blkB_old F name v h) (by simp [namedC, namedS, blkA, blkB, letX, setX, wrap64])
theorem scope1B (name : ByteArray) : checkC [fnX [blkB name, blkB name]] = (53, 0) := scope4 name _ (by simp [namedC, namedS, blkA, blkB, letX, wrap64])
theorem scope2B (name : ByteArray) : checkC [fnX [blkB name, setX name]] = (53, 0) := scope4 name _ (by simp [namedC, namedS, blkA, blkB, letX, setX, wrap64])
end Go.Proofs.Ytpiamiaigjlafaa
