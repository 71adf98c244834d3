/- The words for memory that all texts of this claim use: what a slice reads as, what a call leaves as it was. No condition. -/
import Derived.WalkKit
import Derived.WalkSpells
import Derived.WalkLawsBesides
import Derived.Lib.Hide
import Derived.BigGuardPart
import Derived.Deep.LoopGhost
import Derived.Deep.QuietTactic
import Derived.BigQuiet
import Derived.Deep.Draws
import Derived.Laws.Cells
import Derived.Deep.DeepFit
import Derived.Shelf.Abstract
import Derived.Deep.WholeRow
import Derived.Deep.MidRow
import Derived.Lib.SliceRun
import Derived.StillTailTactics
namespace Go.Proofs.YtiikniopjcnphaaDoor
open Go.RowKit

/-- All that lay in w lies in w' as it lay. -/
def Grew (w w' : World) : Prop := Below w.heap.size w w'

section
variable {a b c w w' : World}
theorem Grew.refl (w : World) : Grew w w := Below.refl _ _
theorem Grew.trans (h : Grew a b) (k : Grew b c) : Grew a c := Below.trans h (Below.mono k (Below.size h))
theorem Grew.size (h : Grew a b) : a.heap.size ≤ b.heap.size := Below.size h
theorem Grew.alloc (h : Grew a w) (o : Obj) : Grew a (w.alloc o) := Below.alloc h (Below.size h) o
theorem Grew.drew (h : Grew a w) : Grew a w.drew := Below.drew h
theorem Grew.drewN (h : Grew a w) (n : Nat) : Grew a (w.drewN n) := ⟨h.os, h.tape, h.output, h.size, h.block⟩
theorem Grew.setCell (h : Grew a w) {p : Addr} (hp : a.heap.size ≤ p.block) (u : Value) : Grew a (w.setCell p u) := Below.setCell h hp u
theorem Grew.cell (h : Grew a b) {p : Addr} (hp : p.block < a.heap.size) : b.cell? p = a.cell? p := Below.cell h hp
theorem Grew.frozen (h : Grew a b) {p : Addr} (hp : p.block < a.heap.size) : b.frozen? p = a.frozen? p := Below.frozen h hp
theorem Grew.cells (h : Grew a b) : (∀ bl o, bl < a.heap.size → b.cell? ⟨bl, o, none⟩ = a.cell? ⟨bl, o, none⟩) ∧ (∀ bl o, bl < a.heap.size → b.frozen? ⟨bl, o, none⟩ = a.frozen? ⟨bl, o, none⟩) :=
  ⟨fun _ _ hb => h.cell hb, fun _ _ hb => h.frozen hb⟩
theorem Grew.below (h : Grew a b) : Below a.heap.size a b := h
end

/-- The value v is a slice whose elements, of k cells each, hold cs, one element behind the other. -/
def Rd (w : World) (k : Nat) (v : Value) (cs : List Value) : Prop :=
  ∃ (A : Option Addr) (n c : Nat), v = .slice A n c ∧ cs.length = n * k ∧ n ≤ c ∧ c ≤ maxLen ∧
    (0 < n → ∃ b off, A = some ⟨b, off, none⟩ ∧ b < w.heap.size ∧ ∀ j u, cs[j]? = some u → w.cell? ⟨b, off + j, none⟩ = some u)

theorem Rd.mono {w w' : World} {k : Nat} {v : Value} {cs : List Value} (h : Rd w k v cs) (hg : Grew w w') : Rd w' k v cs := by
  obtain ⟨A, n, c, hv, hl, hn, hc, hr⟩ := h
  refine ⟨A, n, c, hv, hl, hn, hc, fun h0 => ?_⟩
  obtain ⟨b, off, hA, hb, hcell⟩ := hr h0
  exact ⟨b, off, hA, Nat.lt_of_lt_of_le hb hg.size, fun j u hu => (hg.cell hb).trans (hcell j u hu)⟩

theorem Rd.nil (w : World) (k : Nat) : Rd w k (.slice none 0 0) [] := ⟨none, 0, 0, rfl, by simp, Nat.le_refl _, Nat.zero_le _, fun h => absurd h (Nat.lt_irrefl _)⟩

/-- The row that was just made. -/
theorem Rd.fresh (w : World) (e : TypeId) (k n : Nat) (cs : List Value) (h : cs.length = n * k) (hn : n ≤ maxLen) : Rd (w.alloc (.cells cs.toArray e)) k (.slice (some ⟨w.heap.size, 0, none⟩) n n) cs := by
  refine ⟨_, n, n, rfl, h, Nat.le_refl _, hn, fun _ => ⟨w.heap.size, 0, rfl, by simp, fun j u hu => ?_⟩⟩
  have hlast : (w.alloc (.cells cs.toArray e)).heap[w.heap.size]? = some (.cells cs.toArray e) := heap_alloc_last w _
  rw [cell_of_row _ _ _ _ _ _ hlast]
  simpa using hu

/-- The number of a value that is an integer. -/
theorem ret_int {k : IntKind} {a b : Int} (h : a = b) : Ending.returned (.int k a) = .returned (.int k b) := by rw [h]
theorem ret_bool {a b : Bool} (h : a = b) : Ending.returned (.bool a) = .returned (.bool b) := by rw [h]

/-- A load of the cells of one element. -/
theorem run_cells (P : Program) (W : World) (a : Addr) (cs : List Value) (k : Nat) (hk : cs.length = k) (h : ∀ j v, cs[j]? = some v → W.cell? (a.add j) = some v) :
    Sem.run P (loadCellsFrom a 0 k #[]) W = .ok cs.toArray W := by
  have := run_loadCells_list (P := P) (w := W) a cs h
  rw [hk] at this
  simpa [loadCells] using this

theorem add_lit (b off j : Nat) : (⟨b, off, none⟩ : Addr).add j = ⟨b, off + j, none⟩ := by
  unfold Addr.add
  split
  · next h => subst h; rfl
  · rfl

/-- The first place, from i on, at which p holds; -1 if there is none. -/
def idxFrom {α : Type} (p : α → Bool) : List α → Nat → Int
  | [], _ => -1
  | x :: r, i => if p x then (i : Int) else idxFrom p r (i + 1)
/-- What slices.IndexFunc returns. -/
def idxP {α : Type} (p : α → Bool) (l : List α) : Int := idxFrom p l 0

theorem idxFrom_hit {α : Type} (p : α → Bool) (l : List α) (j k : Nat) (hk : k < l.length) (hp : p l[k] = true) (h : ∀ i (hi : i < l.length), i < k → p l[i] = false) : idxFrom p l j = ((j + k : Nat) : Int) := by
  induction l generalizing j k with
  | nil => simp at hk
  | cons x r ih =>
    cases k with
    | zero => simp at hp; simp [idxFrom, hp]
    | succ k =>
      have h0 := h 0 (by simp) (by omega)
      simp only [List.getElem_cons_zero] at h0
      rw [idxFrom, h0]
      simp only [Bool.false_eq_true, if_false]
      have e := ih (j + 1) k (by simpa using hk) (by simpa using hp) (fun i hi hik => h (i + 1) (Nat.succ_lt_succ hi) (by omega))
      rw [e]
      congr 1
      omega
theorem idxFrom_miss {α : Type} (p : α → Bool) (l : List α) (j : Nat) (h : ∀ i (hi : i < l.length), p l[i] = false) : idxFrom p l j = -1 := by
  induction l generalizing j with
  | nil => rfl
  | cons x r ih =>
    have h0 := h 0 (by simp)
    simp only [List.getElem_cons_zero] at h0
    rw [idxFrom, h0]
    simp only [Bool.false_eq_true, if_false]
    exact ih (j + 1) (fun i hi => h (i + 1) (Nat.succ_lt_succ hi))
theorem idxP_hit {α : Type} (p : α → Bool) (l : List α) (k : Nat) (hk : k < l.length) (hp : p l[k] = true) (h : ∀ i (hi : i < l.length), i < k → p l[i] = false) : idxP p l = (k : Int) := by
  unfold idxP
  rw [idxFrom_hit p l 0 k hk hp h]
  simp
theorem idxP_miss {α : Type} (p : α → Bool) (l : List α) (h : ∀ i (hi : i < l.length), p l[i] = false) : idxP p l = -1 := idxFrom_miss p l 0 h

theorem idxFrom_any {α : Type} (p : α → Bool) (l : List α) (j : Nat) : decide (0 ≤ idxFrom p l j) = l.any p := by
  induction l generalizing j with
  | nil => rfl
  | cons x r ih =>
    rw [idxFrom, List.any_cons]
    by_cases h : p x = true
    · rw [if_pos h, h]
      simp
    · simp only [Bool.not_eq_true] at h
      rw [h]
      simp only [Bool.false_eq_true, if_false, Bool.false_or]
      exact ih (j + 1)
theorem idxP_any {α : Type} (p : α → Bool) (l : List α) : decide (0 ≤ idxP p l) = l.any p := idxFrom_any p l 0

theorem idxP_find {α : Type} (p : α → Bool) (l : List α) (h : l.any p = true) : ∃ m, ∃ hm : m < l.length, p l[m] = true ∧ ∀ i (hi : i < l.length), i < m → p l[i] = false := by
  induction l with
  | nil => simp at h
  | cons x r ih =>
    by_cases hx : p x = true
    · exact ⟨0, by simp, hx, fun i _ hi => absurd hi (Nat.not_lt_zero _)⟩
    · simp only [Bool.not_eq_true] at hx
      rw [List.any_cons, hx, Bool.false_or] at h
      obtain ⟨m, hm, h1, h2⟩ := ih h
      refine ⟨m + 1, Nat.succ_lt_succ hm, h1, fun i hi hlt => ?_⟩
      cases i with
      | zero => exact hx
      | succ i => exact h2 i (Nat.lt_of_succ_lt_succ hi) (by omega)

/-- A whole value stored into the block that was made last. -/
theorem wpList_store_new {P : Program} {ops : Array Oper} {rest : List Oper} {o : Oper} {a : Act} {w : World} {Q : Exit → Act → World → Prop} (hgd : o.guard = none) (t : TypeId) (x y : Operand) (ho : o.op = .store t x y)
    (c c' : Array Value) (hx : a.eval x = .pointer (some ⟨w.heap.size, 0, none⟩)) (hy : a.eval y = .agg c') (hi : (P.info? t).map (·.size) = some c'.size) (hs : c.size = c'.size) (h1 : c'.toList.all (·.oneCell') = true)
    (h : wpList P ops Q rest (a.put o.dst undef) (w.alloc (.cells c' t))) : wpList P ops Q (o :: rest) a (w.alloc (.cells c t)) :=
  wpList_plain hgd fun _ hK => by
    have h1' : c'.all (·.oneCell') = true := by rw [← Array.all_toList]; exact h1
    unfold Oper.wp execOp
    simp only [ho, hx, hy, Sem.run_bind, run_storeAt_new w t c c' hi hs h1', Result.andThen_ok]
    exact hK _ _ h

/-- Cells stored one behind the other into a row of the call's own. -/
theorem own_setCells {base : Nat} {e : TypeId} {k g n cap : Nat} : ∀ (vs : List Value) (o : Nat) (w : World) (ds : List Value), w.ownsRow base e k (.slice (some ⟨g, 0, none⟩) n cap) n ds →
    ∃ ds', (w.setCells g o vs).ownsRow base e k (.slice (some ⟨g, 0, none⟩) n cap) n ds' ∧ w.grownBy (w.setCells g o vs) (some g) ∧ ds'.length = ds.length ∧
      (∀ t, t < o ∨ o + vs.length ≤ t → ds'[t]? = ds[t]?) ∧ (∀ t, t < vs.length → o + t < ds.length → ds'[o + t]? = vs[t]?)
  | [], o, w, ds, h => ⟨ds, h, World.grownBy.refl w _, rfl, fun _ _ => rfl, fun t ht => absurd ht (Nat.not_lt_zero _)⟩
  | v :: vs, o, w, ds, h => by
    obtain ⟨h1, hg1⟩ := h.stored o v
    obtain ⟨ds', h2, hg2, hl, ha, hb⟩ := own_setCells vs (o + 1) (w.setCell ⟨g, o, none⟩ v) (ds.set o v) h1
    refine ⟨ds', h2, hg1.trans hg2, by rw [hl, List.length_set], fun t ht => ?_, fun t ht htl => ?_⟩
    · simp only [List.length_cons] at ht
      rw [ha t (by omega), List.getElem?_set_ne (by omega)]
    · cases t with
      | zero =>
        rw [Nat.add_zero, ha o (by omega), List.getElem?_set_self (by omega)]
        rfl
      | succ t =>
        rw [show o + (t + 1) = o + 1 + t by omega, hb t (by simpa using ht) (by rw [List.length_set]; omega)]
        rfl

theorem own_cell {w : World} {base : Nat} {e : TypeId} {k g n cap : Nat} {ds : List Value} (h : w.ownsRow base e k (.slice (some ⟨g, 0, none⟩) n cap) n ds) (t : Nat) (ht : t < n * k) : ∃ u, ds[t]? = some u ∧ w.cell? ⟨g, t, none⟩ = some u := by
  have hl := h.1
  refine ⟨ds[t]'(by omega), List.getElem?_eq_getElem (by omega), ?_⟩
  rw [h.cellAt t ht]
  exact List.getElem?_eq_getElem (by omega)

/-- clear(s[i:]) on a row of the call's own. -/
theorem run_clear_own {P : Program} (w : World) (t e ty : TypeId) (z : Value) (k : Nat) (ht : P.underlying t = some (.slice e)) (hz : ∀ w, (zeroValue e).run P w = .ok z w) (hk : z.cells.size = k) (h0 : 0 < k) (h1 : ∀ u ∈ z.cells.toList, u.oneCell' = true)
    {base g n cap : Nat} {ds : List Value} (h : w.ownsRow base e k (.slice (some ⟨g, 0, none⟩) n cap) n ds) (i c : Nat) (hi : i < n) :
    ∃ w' ds', (Builtin.clear_ #[t] ty #[.slice (some ⟨g, i * k, none⟩) (n - i) c]).run P w = .ok (.tuple #[]) w' ∧ w'.ownsRow base e k (.slice (some ⟨g, 0, none⟩) n cap) n ds' ∧ w.grownBy w' (some g) ∧ ∀ t, t < i * k → ds'[t]? = ds[t]? := by
  have hlen : (Builtin.zeroCells z.cells (n - i)).toList.length = (n - i) * k := by
    simp [Builtin.zeroCells, hk]
  have hone : ∀ v ∈ (Builtin.zeroCells z.cells (n - i)).toList, v.oneCell' = true := by
    intro v hv
    simp only [Builtin.zeroCells, Array.toList_map, List.mem_map] at hv
    obtain ⟨j, _, rfl⟩ := hv
    have hlt : j % z.cells.size < z.cells.size := Nat.mod_lt _ (by omega)
    rw [getElem!_pos z.cells _ hlt]
    exact h1 _ (by simp)
  have hle : (n - i) * k + i * k = n * k := by rw [← Nat.add_mul]; congr 1; omega
  obtain ⟨ds', hd, hg, _, ha, _⟩ := own_setCells (Builtin.zeroCells z.cells (n - i)).toList (i * k) w ds h
  have hst := run_storeCells_cells (P := P) g (i * k) (Builtin.zeroCells z.cells (n - i)).toList 0 w
    (fun j hj => by
      obtain ⟨u, _, hu⟩ := own_cell h (i * k + j) (by omega)
      simp [hu])
    (fun j hj => h.frozenAt _) hone
  simp only [Nat.add_zero] at hst
  refine ⟨_, ds', ?_, hd, hg, fun t ht => ha t (.inl ht)⟩
  obtain ⟨m, hm⟩ : ∃ m, n - i = m + 1 := ⟨n - i - 1, by omega⟩
  rw [hm] at hst ⊢
  simp [Builtin.clear_, run_underlying ht, hz, hst]

/-- A whole value stored into cells that are there. -/
theorem wpList_store_list {P : Program} {ops : Array Oper} {rest : List Oper} {o : Oper} {a : Act} {w : World} {Q : Exit → Act → World → Prop} (hgd : o.guard = none) (ty : TypeId) (x y : Operand) (ho : o.op = .store ty x y)
    (g off : Nat) (vs : List Value) (n : Nat) (hn : vs.length = n) (hx : a.eval x = .pointer (some ⟨g, off, none⟩)) (hy : a.eval y = .agg vs.toArray) (ht : w.there g off n) (hi : (P.info? ty).map (·.size) = some n) (h1 : vs.all (·.oneCell') = true)
    (h : wpList P ops Q rest (a.put o.dst undef) (w.setCells g off vs)) : wpList P ops Q (o :: rest) a w := by
  subst hn
  exact wpList_store_mid hgd ty x y ho g off vs.toArray hx hy (by simpa using ht) (by simpa using hi) (all_oneCell_toArray (by simpa using h1)) (by simpa using h)

/-- A region that draws: quiet operations first, then a tail in one order. -/
theorem region_still_tail {P : Program} {id : Nat} {Q : Exit → Act → World → Prop} {a : Act} {w : World} {l : List Oper} (n : Nat) (hm : P.follows .mixedOrders = true) (hB : Region.lexTailB .any l.toArray n = true)
    (h : wpStill P l.toArray w.drew (fun a' => wpList P l.toArray Q (l.drop n) a' w.drew) (l.take n) a) : (Code.region id l.toArray true).wp P Q a w := wp_region_still_tail n hm hB h
end Go.Proofs.YtiikniopjcnphaaDoor
