/- What a slice of values that comes in reads as. No condition. -/
import Derived.Test.YtiikniopjcnphaaDoorOpen
namespace Go.Proofs.YtiikniopjcnphaaDoor
open Go.ChangeShapes Go.WideShapes Go.ChangeAt Go.RowKit

/-- A slice that comes in, whose elements read as things of one kind. -/
theorem open_rows {α : Type} {H : Type} {enc : TypeId × Value → H} {P : Program} {W : World} {base k : Nat} {t e : TypeId} {v : Value} {d : DataW H} {ps : List MemPlace} (f : α → List Value) (hk : ∀ x, (f x).length = k) (h0 : 0 < k)
    (ht : P.underlying t = some (.slice e)) (hc : P.cellsOf e = k) (hel : ∀ n cs x, DataW.trod enc P W 0 (fun _ => true) true n e cs = some x → ∃ a, cs = f a)
    (hval : Value.okWide P W .any base t v) (h : DataW.Trod enc P W 0 (fun _ => true) true t v d ps) : ∃ l : List α, Rd W k v (l.flatMap f) := by
  obtain ⟨a0, len0, cap0, rfl⟩ := okWide_slice ht hval
  obtain ⟨fuel, hf⟩ := h
  rcases Go.Deep.open_slice ht hf with ⟨hn, -⟩ | ⟨a, len, cap, m, n, D, Pl, hn, -, hle, hmx, hm, -, hcell⟩
  · simp only [Value.cells] at hn
    simp at hn
    obtain ⟨rfl, rfl, rfl⟩ := hn
    exact ⟨[], Rd.nil W k⟩
  · simp only [Value.cells] at hn
    simp at hn
    obtain ⟨rfl, rfl, rfl⟩ := hn
    simp only [if_true] at hm
    subst hm
    rw [hc] at hcell
    have key : ∀ m, m ≤ len0 → ∃ l : List α, l.length = m ∧ ∀ i (hi : i < l.length) j, j < k → W.cell? (a.add (i * k + j)) = (f l[i])[j]? := by
      intro m
      induction m with
      | zero => exact fun _ => ⟨[], rfl, fun i hi => absurd hi (Nat.not_lt_zero _)⟩
      | succ m ih =>
        intro hm
        obtain ⟨l, hl, hr⟩ := ih (by omega)
        obtain ⟨cs', hcs, htr⟩ := hcell m (by omega)
        obtain ⟨x, rfl⟩ := hel _ _ _ htr
        obtain ⟨-, -, hcs⟩ := World.cells?_some hcs
        refine ⟨l ++ [x], by simp [hl], fun i hi j hj => ?_⟩
        by_cases hi' : i < l.length
        · rw [hr i hi' j hj, List.getElem_append_left hi']
        · have : i = m := by simp at hi; omega
          subst this
          have := hcs j hj
          rw [Go.Deep.add_add] at this
          rw [this, List.getElem_append_right (by omega)]
          simp [hl]
    obtain ⟨l, hl, hr⟩ := key len0 (Nat.le_refl _)
    refine ⟨l, some a, len0, _, rfl, by rw [flatMap_len f k hk, hl], hle, hmx, fun hpos => ?_⟩
    have hz := hr 0 (by omega) 0 h0
    have hlt0 : 0 < (f (l[0]'(by omega))).length := by rw [hk]; exact h0
    rw [List.getElem?_eq_getElem hlt0] at hz
    have hsp := spot_none hz
    have ha0 : a.add (0 * k + 0) = a := by simp [Addr.add]
    rw [ha0] at hsp hz
    obtain ⟨b, off, sp⟩ := a
    obtain rfl : sp = none := hsp
    refine ⟨b, off, rfl, World.block_lt_of_cell? W _ hz, fun j u hu => ?_⟩
    have hj : j < len0 * k := by
      have := (List.getElem?_eq_some_iff.1 hu).1
      rwa [flatMap_len f k hk, hl] at this
    have hdiv : j / k < len0 := Nat.div_lt_of_lt_mul (by rw [Nat.mul_comm]; exact hj)
    have hmod : j % k < k := Nat.mod_lt _ h0
    have e : j = j / k * k + j % k := by rw [Nat.mul_comm]; exact (Nat.div_add_mod j k).symm
    have h1 := hr (j / k) (by omega) (j % k) hmod
    rw [add_lit, ← e] at h1
    rw [h1, ← flatMap_get f k hk l (j / k) (j % k) (by omega) hmod, ← e]
    exact hu

set_option maxRecDepth 100000 in
theorem open_slV {H : Type} {enc : TypeId × Value → H} {W : World} {base : Nat} {v : Value} {d : DataW H} {ps : List MemPlace} (hval : Value.okWide Tryd.prog W .any base 32 v)
    (h : DataW.Trod enc Tryd.prog W 0 (fun _ => true) true 32 v d ps) : ∃ l, SlV W v l := by
  refine open_rows Val.cells (fun _ => rfl) (by omega) Tryd.underlying32 (by kernel_rfl) (fun n cs x hx => ?_) hval h
  obtain ⟨xs, m, -, -, hl, hlen, hf⟩ := DataW.trod_struct Tryd.underlying31 hx
  have hl4 : cs.length = 4 := hl.trans (by kernel_rfl)
  match xs, hlen with
  | [y0, y1, y2, y3], _ =>
    have h0 := hf 0 _ rfl
    have h1 := hf 1 _ rfl
    have h2 := hf 2 _ rfl
    have h3 := hf 3 _ rfl
    match cs, hl4 with
    | [c0, c1, c2, c3], _ =>
      have k1 : Tryd.prog.cellsOf 3 = 1 := by kernel_rfl
      have k2 : Tryd.prog.cellsOf 9 = 1 := by kernel_rfl
      simp only [List.getElem_toArray, List.getElem_cons_zero, List.getElem_cons_succ, k1, k2, List.getElem?_cons_zero, List.getElem?_cons_succ, List.drop_zero, List.drop_succ_cons, List.take_succ_cons, List.take_zero] at h0 h1 h2 h3
      obtain ⟨a, ha, -⟩ := DataW.trod_int Tryd.underlying3 h0
      obtain ⟨b, hb, -⟩ := DataW.trod_int Tryd.underlying3 h1
      obtain ⟨c, hc, -⟩ := DataW.trod_string Tryd.underlying9 h2
      obtain ⟨d, hd, -⟩ := DataW.trod_string Tryd.underlying9 h3
      simp only [List.cons.injEq, and_true] at ha hb hc hd
      subst ha hb hc hd
      exact ⟨⟨a, b, c, d⟩, rfl⟩
end Go.Proofs.YtiikniopjcnphaaDoor
