/- Plain facts on sorted lists without runs: no program in sight. No condition. -/
import Derived.Lib.SlicesCompact
namespace Go.Proofs.YtiikniopjcnphaaDoor
open Go.Lib

abbrev Str := List UInt8
theorem le_tr (a b c : Str) (h1 : decide (a ≤ b) = true) (h2 : decide (b ≤ c) = true) : decide (a ≤ c) = true := by
  simp only [decide_eq_true_iff] at *
  exact List.le_trans h1 h2
theorem le_to (a b : Str) : (decide (a ≤ b) || decide (b ≤ a)) = true := by
  simp only [Bool.or_eq_true, decide_eq_true_iff]
  exact List.le_total a b
def sortS (l : List Str) : List Str := l.mergeSort fun x y => decide (x ≤ y)
theorem sortS_perm (l : List Str) : (sortS l).Perm l := List.mergeSort_perm l _
theorem sortS_sorted (l : List Str) : (sortS l).Pairwise fun x y => decide (x ≤ y) = true := List.pairwise_mergeSort le_tr le_to l

theorem compact_len_le {α : Type} [DecidableEq α] [Inhabited α] (l : List α) : (compact l).length ≤ l.length := by
  unfold compact compactUpTo
  rw [List.length_map]
  have := List.length_filter_le (keeps l.toArray) (List.range l.length)
  simpa using this
theorem compact_full {α : Type} [DecidableEq α] [Inhabited α] (l : List α) : (compact l).length = l.length ↔ ∀ j, j < l.length → keeps l.toArray j = true := by
  unfold compact compactUpTo
  rw [List.length_map]
  constructor
  · intro h j hj
    have h' : ((List.range l.length).filter (keeps l.toArray)).length = (List.range l.length).length := by rw [h]; simp
    have := List.length_filter_eq_length_iff.1 h'
    exact this j (by simpa using hj)
  · intro h
    have : (List.range l.length).filter (keeps l.toArray) = List.range l.length := List.filter_eq_self.2 (fun j hj => h j (by simpa using hj))
    rw [this]; simp
theorem keeps_succ {α : Type} [DecidableEq α] [Inhabited α] (l : List α) (j : Nat) (hj : j + 1 < l.length) : keeps l.toArray (j + 1) = decide (l[j + 1] ≠ l[j]'(by omega)) := by
  unfold keeps
  have h1 : l.toArray[j + 1]! = l[j + 1] := by simp [hj]
  have h2 : l.toArray[j + 1 - 1]! = l[j]'(by omega) := by simp [show j < l.length by omega]
  rw [h1, h2]
  simp
theorem sorted_nodup (l : List Str) (hs : l.Pairwise fun x y => decide (x ≤ y) = true) : (compact l).length = l.length ↔ l.Nodup := by
  rw [compact_full]
  constructor
  · intro h
    have key : ∀ i j (hi : i < j) (hj : j < l.length), l[i]'(by omega) ≠ l[j] := by
      intro i j hi hj e
      have h1 := h (i + 1) (by omega)
      rw [keeps_succ l i (by omega)] at h1
      have hne : l[i + 1]'(by omega) ≠ l[i]'(by omega) := of_decide_eq_true h1
      have a1 : l[i]'(by omega) ≤ l[i + 1]'(by omega) := by
        have := List.pairwise_iff_getElem.1 hs i (i + 1) (by omega) (by omega) (by omega)
        exact of_decide_eq_true this
      have a2 : l[i + 1]'(by omega) ≤ l[i]'(by omega) := by
        rw [e]
        rcases Nat.lt_or_ge (i + 1) j with hlt | hge
        · have := List.pairwise_iff_getElem.1 hs (i + 1) j (by omega) hj hlt
          exact of_decide_eq_true this
        · obtain rfl : j = i + 1 := by omega
          exact List.le_refl _
      exact hne (List.le_antisymm a2 a1)
    rw [List.nodup_iff_pairwise_ne]
    rw [List.pairwise_iff_getElem]
    intro i j hi hj hij
    exact key i j hij hj
  · intro h j hj
    cases j with
    | zero => simp [keeps]
    | succ j =>
      rw [keeps_succ l j hj]
      rw [List.nodup_iff_pairwise_ne, List.pairwise_iff_getElem] at h
      have := h j (j + 1) (by omega) hj (by omega)
      exact decide_eq_true (fun e => this e.symm)
theorem compact_lt (l : List Str) : (compact (sortS l)).length < l.length ↔ ¬ l.Nodup := by
  have h1 := sorted_nodup (sortS l) (sortS_sorted l)
  have h2 : (sortS l).length = l.length := (sortS_perm l).length_eq
  have h3 : (sortS l).Nodup ↔ l.Nodup := (sortS_perm l).nodup_iff
  have h4 := compact_len_le (sortS l)
  rw [← h3, ← h1]
  omega
end Go.Proofs.YtiikniopjcnphaaDoor
