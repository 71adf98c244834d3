/- Lemmas on what the functions of the program and of the library compute: InsR, App3, App4. The conditions stand at each. -/
import Derived.Test.YtmbpeniaefpljaaGreatDoorQ3
import Derived.Lib.Overlaps
import Derived.Lib.AppendZerosOnto
import Derived.Laws.CopyOwn
import Derived.Deep.RegionLaw
import Derived.Deep.AppendLies
import Derived.Test.YtmbpeniaefpljaaGreatDoorQ1
/- slices.Insert of one relation, on a row of the call's own. No condition but the sizes that a slice can have. -/
namespace Go.Proofs.YtmbpeniaefpljaaGreatDoor
open Go.RowKit

/-- The slice lies, if anywhere, in a block from n on. -/
def Fresh (n : Nat) (v : Value) : Prop := ∀ k, v.ownBlock = some k → n ≤ k
theorem Fresh.nil (n c d : Nat) : Fresh n (.slice none c d) := fun k hk => by simp [Value.ownBlock] at hk
theorem Fresh.at_ {n b o c d : Nat} {s : Option Nat} (h : n ≤ b) : Fresh n (.slice (some ⟨b, o, s⟩) c d) := fun k hk => by simp [Value.ownBlock] at hk; omega
theorem Fresh.own {w : World} {base : Nat} {e : TypeId} {k : Nat} {v : Value} {n : Nat} {xs : List Value} (h : w.ownsRow base e k v n xs) : Fresh base v := fun k hk => (h.lt k hk).1
theorem Fresh.le {m n : Nat} {v : Value} (h : Fresh n v) (hm : m ≤ n) : Fresh m v := fun k hk => Nat.le_trans hm (h k hk)
theorem flat_take {α : Type} {f : α → List Value} {k : Nat} (hk : ∀ x, (f x).length = k) (l : List α) (i : Nat) : (l.flatMap f).take (i * k) = (l.take i).flatMap f ∧ (l.flatMap f).drop (i * k) = (l.drop i).flatMap f := by
  induction l generalizing i with
  | nil => simp
  | cons x r ih =>
    cases i with
    | zero => simp
    | succ i =>
      have e : (i + 1) * k = (f x).length + i * k := by rw [hk, Nat.succ_mul]; omega
      rw [List.flatMap_cons, e, List.take_length_add_append, List.drop_length_add_append, (ih i).1, (ih i).2]
      simp
end Go.Proofs.YtmbpeniaefpljaaGreatDoor

/- append of a slice, nil let in, to an empty list that was just made. No condition but the sizes that a slice can have. -/
namespace Go.Proofs.YtmbpeniaefpljaaGreatDoor
open Go.RowKit

/-- The slice lies, if anywhere, in a block from n on that is there. -/
def Lies (n : Nat) (w : World) (v : Value) : Prop := ∀ k, v.ownBlock = some k → n ≤ k ∧ k < w.heap.size
theorem Lies.mono {n : Nat} {w w' : World} {v : Value} (h : Lies n w v) (hs : w.heap.size ≤ w'.heap.size) : Lies n w' v := fun k hk => ⟨(h k hk).1, Nat.lt_of_lt_of_le (h k hk).2 hs⟩
theorem append_lit {P : Program} (w : World) (t ty e : TypeId) (i : TypeInfo) (z : Value) (size bytes : Nat) (ht : P.underlying t = some (.slice e)) (hi : P.info? e = some i) (hz : i.zero = some z)
    (hsize : i.size = size) (hby : i.bytes = bytes) (hsz : 0 < size) (g : Nat) (u : Value) (m : Nat) (cs : List Value) (hu : Rd w size u cs) (hl : cs.length = m * size)
    (h63 : m ≤ maxLen) (hbytes : m * bytes ≤ 140737488355328) (base : Nat) (hb : base ≤ g) (hg : g < w.heap.size) :
    ∃ A n c w', (Builtin.append_ #[t, t] ty #[.slice (some ⟨g, 0, none⟩) 0 0, u]).run P w = .ok (.slice A n c) w' ∧ Rd w' size (.slice A n c) cs ∧ Grew w w' ∧ Lies base w' (.slice A n c) := by
  subst hsize
  subst hby
  obtain ⟨A, m', c, rfl, hl', hmc, hcm, hr⟩ := hu
  obtain rfl : m' = m := Nat.eq_of_mul_eq_mul_right hsz (hl'.symm.trans hl)
  rcases Nat.eq_zero_or_pos m' with h0 | h0
  · subst h0
    have hcs : cs = [] := List.eq_nil_of_length_eq_zero (by omega)
    subst hcs
    refine ⟨some ⟨g, 0, none⟩, 0, 0, w, ?_, ⟨_, 0, 0, rfl, by simp, Nat.le_refl _, Nat.zero_le _, fun h => absurd h (Nat.lt_irrefl _)⟩, Grew.refl w, fun k hk => by simp [Value.ownBlock] at hk; omega⟩
    cases A with
    | none => simp [Builtin.append_, run_underlying ht, sizeOf, typeInfo, hi, Builtin.lenOf, Builtin.firstCells, storeCells]
    | some ad => simp [Builtin.append_, run_underlying ht, sizeOf, typeInfo, hi, Builtin.lenOf, Builtin.firstCells, loadCells, loadCellsFrom, storeCells]
  · obtain ⟨b, off, rfl, hbl, hcell⟩ := hr h0
    unfold maxLen at h63
    have hrun := run_append_grow (P := P) w t ty e i z ht hi hz ⟨g, 0, none⟩ 0 0 [] (by simp) (fun j v hj => by simp at hj) ⟨b, off, none⟩ m' c cs hl (fun j v hj => by rw [add_lit]; exact hcell j v hj) (by omega) (by omega) (growslice_fits (by omega) (by simpa using hbytes))
    refine ⟨_, _, _, _, hrun, ?_, ((Grew.refl w).drew).alloc _, fun k hk => by simp [Value.ownBlock] at hk; subst hk; exact ⟨by omega, by simp⟩⟩
    have hge := grownCap_ge w (0 + m') 0 e
    have hle := grownCap_le_maxLen w (0 + m') 0 e (by unfold maxLen; omega)
    refine ⟨_, _, _, rfl, by rw [hl]; simp, hge, hle, fun _ => ⟨w.heap.size, 0, rfl, by simp, fun j x hj => ?_⟩⟩
    have hlast := heap_alloc_last w.drew (.cells (([] : List Value).toArray ++ cs.toArray ++ Builtin.zeroCells z.cells (grownCap w (0 + m') 0 e - (0 + m'))) e)
    have hcl := cell_of_row _ _ (0 + j) _ _ _ hlast
    have hjl := (List.getElem?_eq_some_iff.1 hj).1
    refine hcl.trans ?_
    rw [Nat.zero_add]
    simp [Array.getElem?_append, hjl] 
    exact List.getElem?_eq_some_iff.1 hj |>.2
theorem rd_grown {w w' : World} {row : Option Nat} {k : Nat} {v : Value} {cs : List Value} (h : Rd w k v cs) (hg : w.grownBy w' row) (hr : ∀ b, v.ownBlock = some b → row ≠ some b) : Rd w' k v cs := by
  obtain ⟨A, n, c, rfl, hl, hn, hc, h0⟩ := h
  refine ⟨A, n, c, rfl, hl, hn, hc, fun hp => ?_⟩
  obtain ⟨b, off, rfl, hb, hcell⟩ := h0 hp
  exact ⟨b, off, rfl, Nat.lt_of_lt_of_le hb hg.size, fun j u hu => hg.cell (hcell j u hu) (fun e => hr b rfl e.symm)⟩
end Go.Proofs.YtmbpeniaefpljaaGreatDoor

/- Parts of a slice, and an empty list that was just made as a row of the call's own. No condition but the sizes that a slice can have. -/
namespace Go.Proofs.YtmbpeniaefpljaaGreatDoor
open Go.RowKit

def sufV (A : Option Addr) (n c k size : Nat) : Value := .slice (if c = k then A else A.map (·.add (k * size))) (n - k) (c - k)
/-- s[k:]. -/
theorem part_from {P : Program} {t e : TypeId} {i : TypeInfo} {size : Nat} (ht : P.underlying t = some (.slice e)) (hi : P.info? e = some i) (hsize : i.size = size) (A : Option Addr) (n c k : Nat) (hk : k ≤ n) :
    ∀ W, (Instr.slice t (.slice A n c) (some (.int .i64 (k : Int))) none none).run P W = .ok (sufV A n c k size) W := by
  intro W
  subst hsize
  have h0 : (0 : Int) ≤ (k : Int) := by omega
  have h2 : (k : Int) ≤ (n : Int) := by omega
  simp [Instr.slice, run_underlying ht, Instr.sliceBounds, run_sliceBound, h2, sizeOf, typeInfo, hi, sufV]
theorem preV_rd {W : World} {size n c k : Nat} {A : Option Addr} {cs : List Value} (h : Rd W size (.slice A n c) cs) (hk : k ≤ n) : Rd W size (.slice A k c) (cs.take (k * size)) := by
  obtain ⟨A', n', c', hv, hl, hn, hc, hr⟩ := h
  obtain ⟨rfl, rfl, rfl⟩ := Value.slice.inj hv
  have hm : k * size ≤ n * size := Nat.mul_le_mul_right _ hk
  refine ⟨A, k, c, rfl, by rw [List.length_take]; omega, by omega, hc, fun h0 => ?_⟩
  obtain ⟨b, off, hA, hb, hcell⟩ := hr (by omega)
  refine ⟨b, off, hA, hb, fun j u hu => ?_⟩
  rw [List.getElem?_take] at hu
  split at hu
  · exact hcell j u hu
  · cases hu
theorem sufV_rd {W : World} {size n c k : Nat} {A : Option Addr} {cs : List Value} (h : Rd W size (.slice A n c) cs) (hk : k ≤ n) : Rd W size (sufV A n c k size) (cs.drop (k * size)) := by
  obtain ⟨A', n', c', hv, hl, hn, hc, hr⟩ := h
  obtain ⟨rfl, rfl, rfl⟩ := Value.slice.inj hv
  have hm : k * size ≤ n * size := Nat.mul_le_mul_right _ hk
  refine ⟨_, n - k, c - k, rfl, by rw [List.length_drop, hl, Nat.sub_mul], by omega, by omega, fun h0 => ?_⟩
  obtain ⟨b, off, rfl, hb, hcell⟩ := hr (by omega)
  refine ⟨b, off + k * size, ?_, hb, fun j u hu => ?_⟩
  · rw [if_neg (by omega), Option.map_some, add_lit]
  · rw [List.getElem?_drop] at hu
    rw [Nat.add_assoc]
    exact hcell _ u hu
theorem rd_lit {W : World} {size : Nat} {e : TypeId} (cs : List Value) (hl : cs.length = size) (H : Nat) (hH : W.heap.size = H) : Rd (W.alloc (.cells cs.toArray e)) size (.slice (some ⟨H, 0, none⟩) 1 1) cs := by
  subst hH
  exact Rd.fresh W e size 1 cs (by omega) (by unfold maxLen; omega)
end Go.Proofs.YtmbpeniaefpljaaGreatDoor
