/- The program's data as Lean's, and how they lie in memory. No condition. -/
import Derived.Test.YtiikniopjcnphaaDoorBase
namespace Go.Proofs.YtiikniopjcnphaaDoor
open Go.RowKit
theorem flatMap_get {α : Type} (f : α → List Value) (k : Nat) (hk : ∀ x, (f x).length = k) (l : List α) (i j : Nat) (hi : i < l.length) (hj : j < k) :
    (l.flatMap f)[i * k + j]? = (f l[i])[j]? := by
  induction l generalizing i with
  | nil => simp at hi
  | cons x r ih =>
    rw [List.flatMap_cons]
    cases i with
    | zero =>
      rw [List.getElem?_append_left (by rw [hk]; omega)]
      simp
    | succ i =>
      rw [List.getElem?_append_right (by rw [hk, Nat.add_mul]; omega), hk]
      have e : (i + 1) * k + j - k = i * k + j := by rw [Nat.add_mul]; omega
      rw [e, ih i (by simpa using hi)]
      rfl
theorem flatMap_len {α : Type} (f : α → List Value) (k : Nat) (hk : ∀ x, (f x).length = k) (l : List α) : (l.flatMap f).length = l.length * k := by
  induction l with
  | nil => simp
  | cons x r ih => rw [List.flatMap_cons, List.length_append, hk, ih, List.length_cons, Nat.add_mul]; omega

/-- What a slice of elements of k cells gives: its length, and the cells of each element. -/
theorem Rd.open_ {α : Type} {w : World} {k : Nat} {v : Value} {f : α → List Value} {l : List α} (hk : ∀ x, (f x).length = k) (h0 : 0 < k) (h : Rd w k v (l.flatMap f)) :
    ∃ (A : Option Addr) (c : Nat), v = .slice A l.length c ∧ l.length ≤ c ∧ c ≤ maxLen ∧
      (0 < l.length → ∃ b off, A = some ⟨b, off, none⟩ ∧ b < w.heap.size ∧ ∀ W, Grew w W → ∀ i (hi : i < l.length) j, j < k → W.cell? ⟨b, off + i * k + j, none⟩ = (f l[i])[j]?) := by
  obtain ⟨A, n, c, hv, hl, hn, hc, hr⟩ := h
  rw [flatMap_len f k hk] at hl
  obtain rfl : n = l.length := (Nat.eq_of_mul_eq_mul_right h0 hl).symm
  refine ⟨A, c, hv, hn, hc, fun hp => ?_⟩
  obtain ⟨b, off, hA, hb, hcell⟩ := hr hp
  refine ⟨b, off, hA, hb, fun W hW i hi j hj => ?_⟩
  have e := flatMap_get f k hk l i j hi hj
  have hlt : j < (f l[i]).length := by rw [hk]; exact hj
  rw [List.getElem?_eq_getElem hlt] at e ⊢
  rw [hW.cell (p := ⟨b, off + i * k + j, none⟩) hb, show off + i * k + j = off + (i * k + j) by omega]
  exact hcell _ _ e

/-- Where slices.DeleteFunc stands: the first i places hold what stays of the first j elements; from j on all is as it was. -/
def DelInv {α : Type} (k : Nat) (f : α → List Value) (l : List α) (q : α → Bool) (ds : List Value) (i j : Nat) : Prop :=
  ds.length = l.length * k ∧ i = ((l.take j).filter q).length ∧ j ≤ l.length ∧ (∀ t, t < i * k → ds[t]? = (((l.take j).filter q).flatMap f)[t]?) ∧ (∀ t, j * k ≤ t → ds[t]? = (l.flatMap f)[t]?)

section
variable {α : Type} {k : Nat} {f : α → List Value} {l : List α} {q : α → Bool} {ds : List Value} {i j : Nat}
theorem DelInv.le (h : DelInv k f l q ds i j) : i ≤ j := by
  obtain ⟨_, hi, hj, _⟩ := h
  have := List.length_filter_le q (l.take j)
  rw [List.length_take] at this
  omega
theorem DelInv.start (hk : ∀ x, (f x).length = k) (m : Nat) (hm : m < l.length) (hq : q l[m] = false) (hb : ∀ t (ht : t < l.length), t < m → q l[t] = true) : DelInv k f l q (l.flatMap f) m (m + 1) := by
  have e : (l.take (m + 1)).filter q = l.take m := by
    rw [List.take_succ_eq_append_getElem hm, List.filter_append]
    have h1 : (l.take m).filter q = l.take m := List.filter_eq_self.2 (fun x hx => by
      obtain ⟨t, ht, rfl⟩ := List.getElem_of_mem hx
      rw [List.getElem_take]
      rw [List.length_take] at ht
      exact hb t (by omega) (by omega))
    rw [h1]
    simp [hq]
  refine ⟨flatMap_len f k hk l, by rw [e, List.length_take]; omega, by omega, fun t ht => ?_, fun t _ => rfl⟩
  rw [e]
  conv => lhs; rw [← List.take_append_drop m l, List.flatMap_append]
  rw [List.getElem?_append_left]
  rw [flatMap_len f k hk, List.length_take, Nat.min_eq_left (by omega)]
  exact ht
theorem DelInv.at_ (h : DelInv k f l q ds i j) (hk : ∀ x, (f x).length = k) (hj : j < l.length) (t : Nat) (ht : t < k) : ds[j * k + t]? = (f l[j])[t]? := by
  rw [h.2.2.2.2 (j * k + t) (by omega), flatMap_get f k hk l j t hj ht]
theorem DelInv.skip (h : DelInv k f l q ds i j) (hj : j < l.length) (hq : q l[j] = false) : DelInv k f l q ds i (j + 1) := by
  obtain ⟨h1, h2, h3, h4, h5⟩ := h
  have e : (l.take (j + 1)).filter q = (l.take j).filter q := by
    rw [List.take_succ_eq_append_getElem hj, List.filter_append]
    simp [hq]
  exact ⟨h1, by rw [e]; exact h2, by omega, by rw [e]; exact h4, fun t ht => h5 t (by rw [Nat.add_mul] at ht; omega)⟩
theorem DelInv.keep {ds' : List Value} (h : DelInv k f l q ds i j) (hk : ∀ x, (f x).length = k) (hj : j < l.length) (hq : q l[j] = true) (hl : ds'.length = ds.length)
    (ha : ∀ t, t < i * k ∨ i * k + (f l[j]).length ≤ t → ds'[t]? = ds[t]?) (hb : ∀ t, t < (f l[j]).length → i * k + t < ds.length → ds'[i * k + t]? = (f l[j])[t]?) : DelInv k f l q ds' (i + 1) (j + 1) := by
  have hij := h.le
  obtain ⟨h1, h2, h3, h4, h5⟩ := h
  have e : (l.take (j + 1)).filter q = (l.take j).filter q ++ [l[j]] := by
    rw [List.take_succ_eq_append_getElem hj, List.filter_append]
    simp [hq]
  have hmul : i * k ≤ j * k := Nat.mul_le_mul_right k hij
  have hmul2 : (j + 1) * k ≤ l.length * k := Nat.mul_le_mul_right k (by omega)
  rw [Nat.add_mul] at hmul2
  have hfl : (((l.take j).filter q).flatMap f).length = i * k := by rw [flatMap_len f k hk, ← h2]
  refine ⟨by rw [hl]; exact h1, by rw [e, List.length_append, ← h2]; rfl, by omega, fun t ht => ?_, fun t ht => ?_⟩
  · rw [e, List.flatMap_append]
    rw [Nat.add_mul] at ht
    rcases Nat.lt_or_ge t (i * k) with hlt | hge
    · rw [ha t (.inl hlt), h4 t hlt, List.getElem?_append_left (by omega)]
    · have := hb (t - i * k) (by rw [hk]; omega) (by omega)
      rw [show i * k + (t - i * k) = t by omega] at this
      rw [this, List.getElem?_append_right (by omega), hfl]
      simp
  · rw [Nat.add_mul] at ht
    rw [ha t (.inr (by rw [hk]; omega))]
    exact h5 t (by omega)
theorem DelInv.done {ds' : List Value} (h : DelInv k f l q ds i l.length) (hk : ∀ x, (f x).length = k) (hd : ∀ t, t < i * k → ds'[t]? = ds[t]?) : ds'.take (i * k) = (l.filter q).flatMap f ∧ i = (l.filter q).length := by
  obtain ⟨_, h2, _, h4, _⟩ := h
  rw [List.take_length] at h2 h4
  refine ⟨?_, h2⟩
  apply List.ext_getElem?
  intro t
  rw [List.getElem?_take]
  split
  · next ht => rw [hd t ht, h4 t ht]
  · next ht =>
    rw [List.getElem?_eq_none]
    rw [flatMap_len f k hk, ← h2]
    omega
end
theorem own_cut {w : World} {base : Nat} {e : TypeId} {k g n cap : Nat} {ds : List Value} (h : w.ownsRow base e k (.slice (some ⟨g, 0, none⟩) n cap) n ds) (i : Nat) (hi : i ≤ n) : w.ownsRow base e k (.slice (some ⟨g, 0, none⟩) i cap) i (ds.take (i * k)) := by
  have hm : i * k ≤ n * k := Nat.mul_le_mul_right k hi
  refine ⟨by rw [List.length_take, h.1]; omega, ?_⟩
  rcases h.2 with ⟨h1, _⟩ | ⟨g', c', cur, hv, hb, hh, hle, hmx, hsz, htk⟩
  · cases h1
  · injection hv with hA _ hC
    injection hA with hA
    injection hA with hG
    subst hG hC
    exact .inr ⟨_, _, cur, rfl, hb, hh, by omega, hmx, hsz, by rw [← htk, List.take_take, Nat.min_eq_left hm]⟩
theorem own_later {w w' : World} {base : Nat} {e : TypeId} {k : Nat} {v : Value} {n : Nat} {xs : List Value} (h : w.ownsRow base e k v n xs) (hg : Grew w w') : w'.ownsRow base e k v n xs := by
  refine ⟨h.1, ?_⟩
  rcases h.2 with h1 | ⟨g, cap, cur, hv, hb, hh, r⟩
  · exact .inl h1
  · refine .inr ⟨g, cap, cur, hv, hb, ?_, r⟩
    rw [hg.block g]
    · exact hh
    · rcases Nat.lt_or_ge g w.heap.size with hlt | hge
      · exact hlt
      · rw [Array.getElem?_eq_none hge] at hh; cases hh
theorem own_form {w : World} {base : Nat} {e : TypeId} {size n : Nat} {v : Value} {xs : List Value} (h : w.ownsRow base e size v n xs) (h0 : 0 < n) : ∃ g cap, v = .slice (some ⟨g, 0, none⟩) n cap ∧ base ≤ g ∧ g < w.heap.size ∧ n ≤ cap := by
  rcases h.2 with ⟨_, h1⟩ | ⟨g, cap, cur, hv, hb, hh, hle, _⟩
  · omega
  · refine ⟨g, cap, hv, hb, ?_, hle⟩
    rcases Nat.lt_or_ge g w.heap.size with hlt | hge
    · exact hlt
    · rw [Array.getElem?_eq_none hge] at hh; cases hh
theorem own_max {w : World} {base : Nat} {e : TypeId} {size n g cap : Nat} {xs : List Value} (h : w.ownsRow base e size (.slice (some ⟨g, 0, none⟩) n cap) n xs) : cap ≤ maxLen := by
  rcases h.2 with ⟨h1, _⟩ | ⟨g', c', cur, hv, _, _, _, hm, _⟩
  · cases h1
  · injection hv with _ _ hc
    subst hc
    exact hm
/-- A row of the call's own, as a slice that is read. -/
theorem Rd.of_own {w : World} {base : Nat} {e : TypeId} {k : Nat} {v : Value} {n : Nat} {xs : List Value} (h : w.ownsRow base e k v n xs) : Rd w k v xs := by
  have hl := h.1
  rcases h.2 with ⟨hv, hn⟩ | ⟨g, cap, cur, hv, _, hh, hle, hmx, _, htk⟩
  · subst hv hn
    exact ⟨none, 0, 0, rfl, hl, Nat.le_refl _, Nat.zero_le _, fun h => absurd h (Nat.lt_irrefl _)⟩
  · subst hv
    refine ⟨_, n, cap, rfl, hl, hle, hmx, fun _ => ⟨g, 0, rfl, ?_, fun j u hu => ?_⟩⟩
    · rcases Nat.lt_or_ge g w.heap.size with hlt | hge
      · exact hlt
      · rw [Array.getElem?_eq_none hge] at hh; cases hh
    · rw [Nat.zero_add, cell_of_row w g j cur e (0, 0) hh, ← hu, ← htk, List.getElem?_take]
      have : j < n * k := by rw [← hl]; exact (List.getElem?_eq_some_iff.1 hu).1
      rw [if_pos this]
      simp
structure Val where
  unit : Int
  elem : Int
  lang : ByteArray
  text : ByteArray
deriving DecidableEq, Inhabited
def Val.cells (x : Val) : List Value := [.int .i64 x.unit, .int .i64 x.elem, .string x.lang, .string x.text]
def Val.agg (x : Val) : Value := .agg #[.int .i64 x.unit, .int .i64 x.elem, .string x.lang, .string x.text]
/-- The value v is a slice that holds l. -/
def SlV (w : World) (v : Value) (l : List Val) : Prop := Rd w 4 v (l.flatMap Val.cells)
theorem SlV.mono {w w' : World} {v : Value} {l : List Val} (h : SlV w v l) (hg : Grew w w') : SlV w' v l := Rd.mono h hg
theorem SlV.nil (w : World) : SlV w (.slice none 0 0) [] := Rd.nil w _
theorem SlV.open_ {w : World} {v : Value} {l : List Val} (h : SlV w v l) : ∃ (A : Option Addr) (c : Nat), v = .slice A l.length c ∧ l.length ≤ c ∧ c ≤ maxLen ∧
      (0 < l.length → ∃ b off, A = some ⟨b, off, none⟩ ∧ b < w.heap.size ∧ ∀ W, Grew w W → ∀ i (hi : i < l.length), W.cell? ⟨b, off + i * 4, none⟩ = some (.int .i64 l[i].unit) ∧ W.cell? ⟨b, off + i * 4 + 1, none⟩ = some (.int .i64 l[i].elem) ∧ W.cell? ⟨b, off + i * 4 + 2, none⟩ = some (.string l[i].lang) ∧ W.cell? ⟨b, off + i * 4 + 3, none⟩ = some (.string l[i].text)) := by
  obtain ⟨A, c, hv, hn, hm, hr⟩ := Rd.open_ (k := 4) (f := Val.cells) (fun _ => rfl) (by omega) h
  refine ⟨A, c, hv, hn, hm, fun h0 => ?_⟩
  obtain ⟨b, off, hA, hb, hc⟩ := hr h0
  exact ⟨b, off, hA, hb, fun W hW i hi => ⟨by simpa [Val.cells] using hc W hW i hi 0 (by omega), by simpa [Val.cells] using hc W hW i hi 1 (by omega), by simpa [Val.cells] using hc W hW i hi 2 (by omega), by simpa [Val.cells] using hc W hW i hi 3 (by omega)⟩⟩
structure Kind where
  word : ByteArray
  inh : Bool
  lev : Int
deriving DecidableEq, Inhabited
def Kind.cells (x : Kind) : List Value := [.string x.word, .bool x.inh, .int .i64 x.lev]
def Kind.agg (x : Kind) : Value := .agg #[.string x.word, .bool x.inh, .int .i64 x.lev]
/-- The value v is a slice that holds l. -/
def SlK (w : World) (v : Value) (l : List Kind) : Prop := Rd w 3 v (l.flatMap Kind.cells)
theorem SlK.mono {w w' : World} {v : Value} {l : List Kind} (h : SlK w v l) (hg : Grew w w') : SlK w' v l := Rd.mono h hg
theorem SlK.nil (w : World) : SlK w (.slice none 0 0) [] := Rd.nil w _
theorem SlK.open_ {w : World} {v : Value} {l : List Kind} (h : SlK w v l) : ∃ (A : Option Addr) (c : Nat), v = .slice A l.length c ∧ l.length ≤ c ∧ c ≤ maxLen ∧
      (0 < l.length → ∃ b off, A = some ⟨b, off, none⟩ ∧ b < w.heap.size ∧ ∀ W, Grew w W → ∀ i (hi : i < l.length), W.cell? ⟨b, off + i * 3, none⟩ = some (.string l[i].word) ∧ W.cell? ⟨b, off + i * 3 + 1, none⟩ = some (.bool l[i].inh) ∧ W.cell? ⟨b, off + i * 3 + 2, none⟩ = some (.int .i64 l[i].lev)) := by
  obtain ⟨A, c, hv, hn, hm, hr⟩ := Rd.open_ (k := 3) (f := Kind.cells) (fun _ => rfl) (by omega) h
  refine ⟨A, c, hv, hn, hm, fun h0 => ?_⟩
  obtain ⟨b, off, hA, hb, hc⟩ := hr h0
  exact ⟨b, off, hA, hb, fun W hW i hi => ⟨by simpa [Kind.cells] using hc W hW i hi 0 (by omega), by simpa [Kind.cells] using hc W hW i hi 1 (by omega), by simpa [Kind.cells] using hc W hW i hi 2 (by omega)⟩⟩
def oneS (x : ByteArray) : List Value := [.string x]
/-- The value v is a slice that holds l. -/
def SlS (w : World) (v : Value) (l : List ByteArray) : Prop := Rd w 1 v (l.flatMap oneS)
theorem SlS.mono {w w' : World} {v : Value} {l : List ByteArray} (h : SlS w v l) (hg : Grew w w') : SlS w' v l := Rd.mono h hg
theorem SlS.nil (w : World) : SlS w (.slice none 0 0) [] := Rd.nil w _
theorem SlS.open_ {w : World} {v : Value} {l : List ByteArray} (h : SlS w v l) : ∃ (A : Option Addr) (c : Nat), v = .slice A l.length c ∧ l.length ≤ c ∧ c ≤ maxLen ∧
      (0 < l.length → ∃ b off, A = some ⟨b, off, none⟩ ∧ b < w.heap.size ∧ ∀ W, Grew w W → ∀ i (hi : i < l.length), W.cell? ⟨b, off + i, none⟩ = some (.string l[i])) := by
  obtain ⟨A, c, hv, hn, hm, hr⟩ := Rd.open_ (k := 1) (f := oneS) (fun _ => rfl) (by omega) h
  refine ⟨A, c, hv, hn, hm, fun h0 => ?_⟩
  obtain ⟨b, off, hA, hb, hc⟩ := hr h0
  exact ⟨b, off, hA, hb, fun W hW i hi => by simpa [oneS] using hc W hW i hi 0 (by omega)⟩
def oneI (x : Int) : List Value := [.int .i64 x]
/-- The value v is a slice that holds l. -/
def SlI (w : World) (v : Value) (l : List Int) : Prop := Rd w 1 v (l.flatMap oneI)
theorem SlI.mono {w w' : World} {v : Value} {l : List Int} (h : SlI w v l) (hg : Grew w w') : SlI w' v l := Rd.mono h hg
theorem SlI.nil (w : World) : SlI w (.slice none 0 0) [] := Rd.nil w _
theorem SlI.open_ {w : World} {v : Value} {l : List Int} (h : SlI w v l) : ∃ (A : Option Addr) (c : Nat), v = .slice A l.length c ∧ l.length ≤ c ∧ c ≤ maxLen ∧
      (0 < l.length → ∃ b off, A = some ⟨b, off, none⟩ ∧ b < w.heap.size ∧ ∀ W, Grew w W → ∀ i (hi : i < l.length), W.cell? ⟨b, off + i, none⟩ = some (.int .i64 l[i])) := by
  obtain ⟨A, c, hv, hn, hm, hr⟩ := Rd.open_ (k := 1) (f := oneI) (fun _ => rfl) (by omega) h
  refine ⟨A, c, hv, hn, hm, fun h0 => ?_⟩
  obtain ⟨b, off, hA, hb, hc⟩ := hr h0
  exact ⟨b, off, hA, hb, fun W hW i hi => by simpa [oneI] using hc W hW i hi 0 (by omega)⟩
end Go.Proofs.YtiikniopjcnphaaDoor
