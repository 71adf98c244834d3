/- What a slice of strings that comes in reads as. No condition. -/
import Derived.Test.YtiikniopjcnphaaDoorFrame
namespace Go.Proofs.YtiikniopjcnphaaDoor
open Go.ChangeShapes Go.WideShapes Go.ChangeAt Go.RowKit

theorem spot_none {w : World} {a : Addr} {u : Value} (h : w.cell? a = some u) : a.spot = none := by
  unfold World.cell? at h
  split at h
  · split at h
    · cases h
    · rename_i hs
      cases hz : a.spot with
      | none => rfl
      | some x => rw [hz] at hs; simp at hs
  · cases h

set_option maxRecDepth 100000 in
theorem open_slS {H : Type} {enc : TypeId × Value → H} {W : World} {base : Nat} {v : Value} {d : DataW H} {ps : List MemPlace} (hval : Value.okWide Tryd.prog W .any base 28 v)
    (h : DataW.Trod enc Tryd.prog W 0 (fun _ => true) true 28 v d ps) : ∃ l, SlS W v l := by
  obtain ⟨a0, len0, cap0, rfl⟩ := okWide_slice Tryd.underlying28 hval
  obtain ⟨fuel, hf⟩ := h
  rcases open_strings Tryd.underlying28 Tryd.underlying9 (by kernel_rfl) hf with ⟨h0, -⟩ | ⟨a, len, cap, ss, h0, -, hle, hmx, hss, -, hcell, -⟩
  · simp only [Value.cells] at h0
    simp at h0
    obtain ⟨rfl, rfl, rfl⟩ := h0
    exact ⟨[], Rd.nil W 1⟩
  · simp only [Value.cells] at h0
    simp at h0
    obtain ⟨rfl, rfl, rfl⟩ := h0
    simp only [if_true] at hss
    refine ⟨ss.take len0, some a, len0, cap0, rfl, ?_, hle, hmx, fun hpos => ?_⟩
    · rw [flatMap_len oneS 1 (fun _ => rfl), List.length_take, hss]
      omega
    · have hz := hcell 0 (by omega)
      have hsp := spot_none hz
      have ha0 : a.add 0 = a := by simp [Addr.add]
      rw [ha0] at hsp
      obtain ⟨b, off, sp⟩ := a
      obtain rfl : sp = none := hsp
      refine ⟨b, off, rfl, ?_, fun j u hu => ?_⟩
      · rw [ha0] at hz
        exact World.block_lt_of_cell? W _ hz
      · have hm : (ss.take len0).flatMap oneS = (ss.take len0).map Value.string := by
          induction ss.take len0 with
          | nil => rfl
          | cons x r ih => simp [List.flatMap_cons, oneS, ih]
        rw [hm, List.getElem?_map, List.getElem?_take] at hu
        by_cases hj : j < len0
        · rw [if_pos hj] at hu
          have hjs : j < ss.length := by omega
          rw [List.getElem?_eq_getElem hjs] at hu
          have hc := hcell j hjs
          rw [add_lit] at hc
          rw [hc]
          simp only [Option.map_some, Option.some.injEq] at hu
          rw [← hu, List.getD_eq_getElem?_getD, List.getElem?_eq_getElem hjs]
          rfl
        · rw [if_neg hj] at hu
          cases hu
end Go.Proofs.YtiikniopjcnphaaDoor
