/- Lemmas on what the functions of the program and of the library compute: Ins. The conditions stand at each. -/
import Derived.Test.YtfghbendiofbeaaGreatDoorQ2
import Derived.Lib.Overlaps
import Derived.Lib.AppendZerosOnto
import Derived.Laws.CopyOwn
/- Laws for copy at elements of several cells. No condition. -/
namespace Go.Proofs.YtfghbendiofbeaaGreatDoor
open Go.RowKit

theorem run_copy_rowk {P : Program} (w : World) (dT sT ty elem : TypeId) (g o dLen dCap : Nat) (a : Addr) (sLen sCap k : Nat) (cur : List Value) (t : TypeId) (cs : List Value)
    (hu : P.underlying dT = some (.slice elem)) (hs : (P.info? elem).map (·.size) = some k) (hg : w.heap[g]? = some (.cells cur.toArray t (0, 0))) (hn : cs.length = Nat.min sLen dLen * k)
    (hsrc : ∀ j v, cs[j]? = some v → w.cell? (a.add j) = some v) (hfit : o + cs.length ≤ cur.length) (h1 : ∀ v ∈ cs, v.oneCell' = true) :
    (Builtin.copy_ #[dT, sT] ty #[.slice (some ⟨g, o, none⟩) dLen dCap, .slice (some a) sLen sCap]).run P w = .ok (goInt (Nat.min sLen dLen)) (w.setRow g (splice cur o cs).toArray) := by
  have hl := run_loadCells_list (P := P) w a cs hsrc
  have hst := run_storeCells_at P g o t cs 0 cur.toArray w hg (by simpa using hfit) h1
  cases hq : P.info? elem with
  | none => simp [hq] at hs
  | some i =>
    have hi : i.size = k := by simpa [hq] using hs
    rw [hn] at hl
    simp [Builtin.copy_, run_underlying hu, Builtin.lenOf, Builtin.firstCells, sizeOf, typeInfo, hq, hi, hl, hst, splice]
/-- copy(d, s) at an operation: d lies in a row that is known whole. -/
theorem copyK {P : Program} {w : World} {ops : Array Oper} {rest : List Oper} {o : Oper} {a : Act} {Q : Exit → Act → World → Prop} (hgd : o.guard = none) (d s : Operand) (dT sT : TypeId)
    (ho : o.op = .call { callee := .builtin .copy, args := #[d, s], argTypes := #[dT, sT] }) (elem : TypeId) (hu : P.underlying dT = some (.slice elem)) (k : Nat) (hsz : (P.info? elem).map (·.size) = some k)
    (g off dLen dCap : Nat) (ad : Addr) (sLen sCap : Nat) (hd : a.eval d = .slice (some ⟨g, off, none⟩) dLen dCap) (hs : a.eval s = .slice (some ad) sLen sCap)
    (cur : List Value) (t : TypeId) (hg : w.heap[g]? = some (.cells cur.toArray t (0, 0))) (cs : List Value) (hn : cs.length = Nat.min sLen dLen * k)
    (hsrc : ∀ j v, cs[j]? = some v → w.cell? (ad.add j) = some v) (hfit : off + cs.length ≤ cur.length) (h1 : ∀ v ∈ cs, v.oneCell' = true) (w0 : World) (hb : Grew w0 w) (hBg : w0.heap.size ≤ g)
    (h : ∀ w', Hid (w'.heap[g]? = some (.cells (splice cur off cs).toArray t (0, 0))) → Hid (Grew w0 w') → Hid (∀ b, b ≠ g → w'.heap[b]? = w.heap[b]?) → wpList P ops Q rest (a.put o.dst (goInt (Nat.min sLen dLen))) w') :
    wpList P ops Q (o :: rest) a w := by
  refine wpList_plain hgd fun K hK => ?_
  have hrun := run_copy_rowk (P := P) w dT sT o.type elem g off dLen dCap ad sLen sCap k cur t cs hu hsz hg hn hsrc hfit h1
  unfold Oper.wp
  simp [execOp, ho, resolve, invoke, builtin, hd, hs, hrun, Result.andThen]
  exact hK _ _ (h _ (setRow_heap w g _ _ t _ hg) (below_setRow hb hBg _) (fun b hb => setRow_other w g b _ hb))
theorem copy_run {P : Program} (w : World) (dT sT : TypeId) (elem : TypeId) (hu : P.underlying dT = some (.slice elem)) (k : Nat) (hsz : (P.info? elem).map (·.size) = some k)
    (g off dLen dCap : Nat) (ad : Addr) (sLen sCap : Nat) (cur : List Value) (t : TypeId) (hg : w.heap[g]? = some (.cells cur.toArray t (0, 0))) (cs : List Value) (hn : cs.length = Nat.min sLen dLen * k)
    (hsrc : ∀ j v, cs[j]? = some v → w.cell? (ad.add j) = some v) (hfit : off + cs.length ≤ cur.length) (h1 : ∀ v ∈ cs, v.oneCell' = true) (w0 : World) (hb : Grew w0 w) (hBg : w0.heap.size ≤ g) :
    ∃ w', (∀ ty, (Builtin.copy_ #[dT, sT] ty #[.slice (some ⟨g, off, none⟩) dLen dCap, .slice (some ad) sLen sCap]).run P w = .ok (goInt (Nat.min sLen dLen)) w') ∧ w'.heap[g]? = some (.cells (splice cur off cs).toArray t (0, 0)) ∧ Grew w0 w' ∧ ∀ b, b ≠ g → w'.heap[b]? = w.heap[b]? :=
  ⟨_, fun ty => run_copy_rowk (P := P) w dT sT ty elem g off dLen dCap ad sLen sCap k cur t cs hu hsz hg hn hsrc hfit h1, setRow_heap w g _ _ t _ hg, below_setRow hb hBg _, fun b hb => setRow_other w g b _ hb⟩
theorem splice_shift {α : Type} (p q r x : List α) (h : x.length ≤ r.length) : splice (splice (p ++ q ++ r) (p.length + x.length) q) p.length x = p ++ x ++ q ++ (p ++ q ++ r).drop (p.length + x.length + q.length) := by
  generalize hC : p ++ q ++ r = C
  have hl : p.length + x.length ≤ C.length := by rw [← hC]; simp; omega
  have hp : C.take p.length = p := by rw [← hC, List.append_assoc, List.take_left]
  have h1 : (splice C (p.length + x.length) q).take p.length = p := by
    unfold splice
    rw [List.take_append_of_le_length (by rw [List.length_take]; omega), List.take_take, Nat.min_eq_left (by omega), hp]
  have h2 : (splice C (p.length + x.length) q).drop (p.length + x.length) = q ++ C.drop (p.length + x.length + q.length) := by
    unfold splice
    rw [List.drop_append_of_le_length (by rw [List.length_take]; omega), List.drop_eq_nil_of_le (by rw [List.length_take]; omega), List.nil_append]
  rw [splice, h1, h2]
  simp
theorem splice_new {α : Type} (p q z x : List α) : splice (splice (p ++ z) p.length x) (p.length + x.length) q = p ++ x ++ q ++ z.drop (x.length + q.length) := by
  have h1 : splice (p ++ z) p.length x = p ++ x ++ z.drop x.length := by
    unfold splice
    rw [List.take_left, List.drop_append, List.drop_eq_nil_of_le (by omega), Nat.add_sub_cancel_left]
    simp
  rw [h1, splice]
  rw [show p.length + x.length = (p ++ x).length by simp, List.take_left, List.drop_append, List.drop_eq_nil_of_le (by omega), Nat.add_sub_cancel_left, List.drop_drop]
  simp
theorem cells_at {w : World} {g : Nat} {cs : List Value} {t : TypeId} {ab : Nat × Nat} (h : w.heap[g]? = some (.cells cs.toArray t ab)) (j : Nat) (v : Value) (hj : cs[j]? = some v) : w.cell? ⟨g, j, none⟩ = some v := by
  rw [cell_of_row _ _ _ _ _ _ h]
  simpa using hj
end Go.Proofs.YtfghbendiofbeaaGreatDoor
