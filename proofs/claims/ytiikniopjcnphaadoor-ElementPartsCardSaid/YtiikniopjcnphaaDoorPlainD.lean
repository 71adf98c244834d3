/- The plain law of right lists of values: what is right is in strict order, its parts are right, Get finds each, and it is made of its units. No condition. -/
import Derived.Test.YtiikniopjcnphaaDoorE6
import Derived.Test.YtiikniopjcnphaaDoorE7
namespace Go.Proofs.YtiikniopjcnphaaDoor
open Go.RowKit

theorem cb_three : ∀ a b : List UInt8, Lib.compareBytes a b = -1 ∨ Lib.compareBytes a b = 0 ∨ Lib.compareBytes a b = 1
  | [], [] => .inr (.inl rfl)
  | [], _ :: _ => .inl rfl
  | _ :: _, [] => .inr (.inr rfl)
  | a :: ra, b :: rb => by
    rw [Lib.compareBytes]
    split
    · exact .inl rfl
    · split
      · exact .inr (.inr rfl)
      · exact cb_three ra rb
theorem cb_eq : ∀ a b : List UInt8, Lib.compareBytes a b = 0 ↔ a = b
  | [], [] => by simp [Lib.compareBytes]
  | [], _ :: _ => by simp [Lib.compareBytes]
  | _ :: _, [] => by simp [Lib.compareBytes]
  | a :: ra, b :: rb => by
    rw [Lib.compareBytes]
    split
    · rename_i h
      simp only [List.cons.injEq]
      constructor
      · intro h; cases h
      · rintro ⟨rfl, _⟩
        exact absurd h (UInt8.lt_irrefl _)
    · rename_i h
      split
      · rename_i h2
        simp only [List.cons.injEq]
        constructor
        · intro h; cases h
        · rintro ⟨rfl, _⟩
          exact absurd h2 (UInt8.lt_irrefl _)
      · rename_i h2
        rw [cb_eq ra rb]
        have : a = b := UInt8.le_antisymm (UInt8.not_lt.1 h2) (UInt8.not_lt.1 h)
        simp [this]
theorem cb_trans : ∀ a b c : List UInt8, Lib.compareBytes a b = -1 → Lib.compareBytes b c = -1 → Lib.compareBytes a c = -1
  | [], [], _ => by intro h; cases h
  | [], _ :: _, [] => by intro _ h; cases h
  | [], _ :: _, _ :: _ => by intros; rfl
  | _ :: _, [], _ => by intro h; cases h
  | _ :: _, _ :: _, [] => by intro _ h; cases h
  | a :: ra, b :: rb, c :: cs => by
    simp only [Lib.compareBytes, UInt8.lt_iff_toNat_lt]
    intro h1 h2
    have ih := cb_trans ra rb cs
    by_cases p1 : a.toNat < b.toNat
    · by_cases q1 : b.toNat < c.toNat
      · rw [if_pos (by omega)]
      · rw [if_neg q1] at h2
        by_cases q2 : c.toNat < b.toNat
        · rw [if_pos q2] at h2; cases h2
        · rw [if_pos (by omega)]
    · rw [if_neg p1] at h1
      by_cases p2 : b.toNat < a.toNat
      · rw [if_pos p2] at h1; cases h1
      · rw [if_neg p2] at h1
        by_cases q1 : b.toNat < c.toNat
        · rw [if_pos (by omega)]
        · rw [if_neg q1] at h2
          by_cases q2 : c.toNat < b.toNat
          · rw [if_pos q2] at h2; cases h2
          · rw [if_neg q2] at h2
            rw [if_neg (by omega), if_neg (by omega)]
            exact ih h1 h2
def cbLt (a b : ByteArray) : Prop := Lib.compareBytes a.data.toList b.data.toList = -1
/-- One value stands before another. -/
def ltV (a b : Val) : Prop := a.unit < b.unit ∨ (a.unit = b.unit ∧ (a.elem < b.elem ∨ (a.elem = b.elem ∧ cbLt a.lang b.lang)))
theorem ltV_trans {a b c : Val} (h1 : ltV a b) (h2 : ltV b c) : ltV a c := by
  rcases h1 with h1 | ⟨h1, h1'⟩
  · rcases h2 with h2 | ⟨h2, _⟩
    · exact .inl (by omega)
    · exact .inl (by omega)
  · rcases h2 with h2 | ⟨h2, h2'⟩
    · exact .inl (by omega)
    · refine .inr ⟨by omega, ?_⟩
      rcases h1' with h1' | ⟨h1', k1⟩
      · rcases h2' with h2' | ⟨h2', _⟩
        · exact .inl (by omega)
        · exact .inl (by omega)
      · rcases h2' with h2' | ⟨h2', k2⟩
        · exact .inl (by omega)
        · exact .inr ⟨by omega, cb_trans _ _ _ k1 k2⟩
theorem ltV_key {a b : Val} (h : ltV a b) (h1 : a.unit = b.unit) (h2 : a.elem = b.elem) (h3 : a.lang = b.lang) : False := by
  rcases h with h | ⟨_, h | ⟨_, h⟩⟩
  · omega
  · omega
  · rw [cbLt, h3, (cb_eq _ _).2 rfl] at h
    cases h
theorem orderV_lt (a b : Val) : orderV a b < 0 ↔ ltV a b := by
  unfold orderV ltV cbLt
  have h3 := cb_three a.lang.data.toList b.lang.data.toList
  simp only [orF, Lib.compareInt]
  by_cases h1 : a.unit < b.unit
  · simp [h1]
  · by_cases h2 : a.unit > b.unit
    · have : ¬ a.unit = b.unit := by omega
      simp [h1, h2, this]
    · have e : a.unit = b.unit := by omega
      by_cases k1 : a.elem < b.elem
      · simp [e, k1]
      · by_cases k2 : a.elem > b.elem
        · have : ¬ a.elem = b.elem := by omega
          simp [e, k1, k2, this]
        · have e2 : a.elem = b.elem := by omega
          simp [e, e2]
          rcases h3 with h3 | h3 | h3 <;> simp [h3]
/-- A value that is right by itself. -/
def goodV (l : List ByteArray) (v : Val) : Prop := 1 ≤ v.unit ∧ v.unit ≤ 1073741824 ∧ isEl v.elem = true ∧ inL l v.lang = true ∧ isTextF v.text.data.toList = true
theorem faultV_ok (l : List ByteArray) (p : Option Val) (v : Val) : faultV l p v = 0 ↔ goodV l v ∧ ∀ u, p = some u → ltV u v := by
  unfold faultV goodV
  by_cases a1 : v.unit < 1
  · simp [a1]; intro h; omega
  by_cases a2 : 1073741824 < v.unit
  · simp [a1, a2]; intro _ h; omega
  have a1' : 1 ≤ v.unit := by omega
  have a2' : v.unit ≤ 1073741824 := by omega
  cases a3 : isEl v.elem
  · simp [a1, a2]
  cases a4 : inL l v.lang
  · simp [a1, a2]
  cases a5 : isTextF v.text.data.toList
  · simp [a1, a2]
  cases p with
  | none => simp [a1, a2, a1', a2']
  | some u =>
    have := orderV_lt u v
    by_cases h : 0 ≤ orderV u v
    · have hn : ¬ ltV u v := fun k => by have := this.2 k; omega
      simp [a1, a2, h, hn]
    · have hy : ltV u v := this.1 (by omega)
      simp [a1, a2, a1', a2', h, hy]
/-- A right list of values. -/
def RightV (l : List ByteArray) (vs : List Val) : Prop := langsF l = 0 ∧ vs.length ≤ 1024 ∧ (∀ v ∈ vs, goodV l v) ∧ vs.Pairwise ltV
theorem pairwise_adj {α : Type} {r : α → α → Prop} (tr : ∀ a b c, r a b → r b c → r a c) : ∀ (l : List α), (∀ (i : Nat) (h : i + 1 < l.length), r (l[i]'(by omega)) (l[i + 1]'h)) → l.Pairwise r
  | [], _ => List.Pairwise.nil
  | [_], _ => by simp
  | a :: b :: m, h => by
    have ih := pairwise_adj (r := r) tr (b :: m) (fun i hi => h (i + 1) (by simpa using hi))
    have hab : r a b := h 0 (by simp)
    refine List.Pairwise.cons ?_ ih
    intro x hx
    rcases List.mem_cons.1 hx with rfl | hx
    · exact hab
    · exact tr _ _ _ hab (List.rel_of_pairwise_cons ih hx)
theorem findFault_snd (f : Nat → Int) : ∀ n i, (findFault f n i).2 = 0 ↔ ∀ j, i ≤ j → j < i + n → f j = 0
  | 0, i => by
    refine ⟨fun _ j h1 h2 => by omega, fun _ => rfl⟩
  | n + 1, i => by
    rw [findFault]
    split
    · rename_i h
      rw [findFault_snd f n (i + 1)]
      constructor
      · intro h2 j h3 h4
        by_cases e : j = i
        · rw [e]; exact h
        · exact h2 j (by omega) (by omega)
      · intro h2 j h3 h4
        exact h2 j (by omega) (by omega)
    · rename_i h
      constructor
      · intro h2; exact absurd h2 h
      · intro h2; exact absurd (h2 i (by omega) (by omega)) h
theorem checkF_right (l : List ByteArray) (vs : List Val) : (checkF l vs).2 = 0 ↔ RightV l vs := by
  unfold checkF RightV
  by_cases h0 : langsF l = 0
  case neg => simp [h0]
  by_cases h1 : 1024 < vs.length
  · simp [h0, h1]; intro h; omega
  have h1' : vs.length ≤ 1024 := by omega
  simp only [h0, h1, h1', ne_eq, not_true_eq_false, if_false, true_and]
  rw [findFault_snd]
  constructor
  · intro h
    have hg : ∀ i (hi : i < vs.length), goodV l vs[i] ∧ ∀ u, prevV vs i = some u → ltV u vs[i] := fun i hi => by
      have := h i (by omega) (by omega)
      rw [faultAt_in l vs i hi, faultV_ok] at this
      exact this
    refine ⟨fun v hv => ?_, pairwise_adj (r := ltV) (fun _ _ _ => ltV_trans) vs (fun i hi => ?_)⟩
    · obtain ⟨i, hi, rfl⟩ := List.mem_iff_getElem.1 hv
      exact (hg i hi).1
    · exact (hg (i + 1) hi).2 _ (by rw [prevV, if_neg (by omega)]; simp)
  · rintro ⟨hg, hp⟩ j - hj
    have hj : j < vs.length := by omega
    rw [faultAt_in l vs j hj, faultV_ok]
    refine ⟨hg _ (List.getElem_mem hj), fun u hu => ?_⟩
    unfold prevV at hu
    split at hu
    · cases hu
    · rw [List.getElem?_eq_getElem (by omega)] at hu
      simp only [Option.some.injEq] at hu
      subst hu
      exact List.pairwise_iff_getElem.1 hp (j - 1) j (by omega) hj (by omega)
theorem checkF_ok (l : List ByteArray) (vs : List Val) (h : RightV l vs) : checkF l vs = (-1, 0) := by
  have h2 := (checkF_right l vs).2 h
  obtain ⟨h0, h1, -, -⟩ := h
  unfold checkF at h2 ⊢
  rw [if_neg (by simpa using h0), if_neg (by omega)] at h2 ⊢
  refine findFault_miss _ _ (fun j hj => ?_)
  exact (findFault_snd _ _ _).1 h2 j (by omega) (by omega)
theorem RightV.part {l : List ByteArray} {vs us : List Val} (h : RightV l vs) (hs : us.Sublist vs) : RightV l us :=
  ⟨h.1, Nat.le_trans hs.length_le h.2.1, fun v hv => h.2.2.1 v (hs.subset hv), h.2.2.2.sublist hs⟩
theorem RightV.wider {l m : List ByteArray} {vs : List Val} (h : RightV l vs) (hm : langsF (l ++ m) = 0) : RightV (l ++ m) vs := by
  refine ⟨hm, h.2.1, fun v hv => ?_, h.2.2.2⟩
  obtain ⟨a, b, c, d, e⟩ := h.2.2.1 v hv
  refine ⟨a, b, c, ?_, e⟩
  unfold inL at d ⊢
  rw [List.any_append, d]
  rfl
theorem getP_self (v : Val) : getP v.unit v.elem v.lang v = true := by simp [getP]
theorem find_first {α : Type} (p : α → Bool) : ∀ (l : List α) (x : α), x ∈ l → p x = true → (∀ y ∈ l, p y = true → y = x) → l.find? p = some x
  | [], x, h, _, _ => by cases h
  | a :: r, x, h, hx, hu => by
    rw [List.find?_cons]
    cases ha : p a with
    | true => simp [hu a (by simp) ha]
    | false =>
      refine find_first p r x ?_ hx (fun y hy => hu y (List.mem_cons_of_mem _ hy))
      rcases List.mem_cons.1 h with rfl | h
      · rw [hx] at ha; cases ha
      · exact h
theorem pairwise_key {l : List Val} (h : l.Pairwise ltV) {x y : Val} (hx : x ∈ l) (hy : y ∈ l) (h1 : x.unit = y.unit) (h2 : x.elem = y.elem) (h3 : x.lang = y.lang) : x = y := by
  obtain ⟨i, hi, rfl⟩ := List.mem_iff_getElem.1 hx
  obtain ⟨j, hj, rfl⟩ := List.mem_iff_getElem.1 hy
  rcases Nat.lt_trichotomy i j with hij | hij | hij
  · exact (ltV_key (List.pairwise_iff_getElem.1 h i j hi hj hij) h1 h2 h3).elim
  · subst hij; rfl
  · exact (ltV_key (List.pairwise_iff_getElem.1 h j i hj hi hij) h1.symm h2.symm h3.symm).elim
theorem bytes_inj {x y : ByteArray} (h : x.toList = y.toList) : x = y := by
  rw [toList_data, toList_data] at h
  cases x; cases y
  simp only [ByteArray.mk.injEq]
  exact Array.toList_inj.1 h
theorem getF_each {l : List ByteArray} {vs : List Val} (h : RightV l vs) (v : Val) (hv : v ∈ vs) : getF vs v.unit v.elem v.lang = some v.text := by
  unfold getF
  rw [find_first _ vs v hv (getP_self v) (fun y hy hq => ?_)]
  · rfl
  · simp only [getP, Bool.and_eq_true, beq_iff_eq] at hq
    exact pairwise_key h.2.2.2 hy hv hq.1 hq.2.1 (bytes_inj hq.2.2)

/-- The values of the units up to one. -/
def upTo (vs : List Val) (n : Int) : List Val := vs.filter fun x => decide (x.unit ≤ n)
theorem upTo_all (vs : List Val) (n : Int) (h : ∀ x ∈ vs, x.unit ≤ n) : upTo vs n = vs := by
  unfold upTo
  exact List.filter_eq_self.2 (fun x hx => by simpa using h x hx)
theorem upTo_none (vs : List Val) (n : Int) (h : ∀ x ∈ vs, n < x.unit) : upTo vs n = [] := by
  unfold upTo
  rw [List.filter_eq_nil_iff]
  intro x hx
  have := h x hx
  simp
  omega
theorem upTo_next : ∀ (vs : List Val) (a b : Int), vs.Pairwise (fun x y => x.unit ≤ y.unit) → a < b → (∀ x ∈ vs, x.unit ≤ a ∨ b ≤ x.unit) → upTo vs a ++ ofF vs b = upTo vs b
  | [], _, _, _, _, _ => rfl
  | x :: r, a, b, hp, hab, hg => by
    have ih := upTo_next r a b hp.of_cons hab (fun y hy => hg y (List.mem_cons_of_mem _ hy))
    by_cases hx : x.unit ≤ a
    · have h1 : x.unit ≤ b := by omega
      have h2 : ¬ x.unit = b := by omega
      simp only [upTo, ofF] at ih ⊢
      rw [List.filter_cons_of_pos (by simpa using hx), List.filter_cons_of_neg (by simpa using h2), List.filter_cons_of_pos (by simpa using h1), List.cons_append, ih]
    · have hb : b ≤ x.unit := by rcases hg x (by simp) with h | h; exact absurd h hx; exact h
      have hr : ∀ y ∈ x :: r, b ≤ y.unit := by
        intro y hy
        rcases List.mem_cons.1 hy with rfl | hy
        · exact hb
        · have := List.rel_of_pairwise_cons hp hy
          omega
      rw [upTo_none _ a (fun y hy => by have := hr y hy; omega), List.nil_append]
      unfold ofF upTo
      refine List.filter_congr (fun y hy => ?_)
      have := hr y hy
      rw [Bool.eq_iff_iff]
      simp
      omega
theorem units_le {vs : List Val} (h : vs.Pairwise ltV) : vs.Pairwise fun x y => x.unit ≤ y.unit := h.imp fun {a b} h => by
  rcases h with h | ⟨h, _⟩
  · omega
  · omega
/-- The unit of the value before. -/
def lastU (vs : List Val) (k : Nat) : Int := match prevV vs k with
  | none => 0
  | some v => v.unit
theorem lastU_zero (vs : List Val) : lastU vs 0 = 0 := rfl
theorem lastU_succ (vs : List Val) (k : Nat) (h : k < vs.length) : lastU vs (k + 1) = vs[k].unit := by
  simp [lastU, prevV, h]
theorem unit_step {vs : List Val} (h : vs.Pairwise ltV) (hg : ∀ v ∈ vs, 1 ≤ v.unit) (k : Nat) (hk : k < vs.length) (hne : vs[k].unit ≠ lastU vs k) : upTo vs (lastU vs k) ++ ofF vs vs[k].unit = upTo vs vs[k].unit := by
  have hp := units_le h
  have hpi := List.pairwise_iff_getElem.1 hp
  refine upTo_next vs _ _ hp ?_ (fun x hx => ?_)
  · cases k with
    | zero => rw [lastU_zero]; have := hg _ (List.getElem_mem hk); omega
    | succ k =>
      rw [lastU_succ vs k (by omega)] at hne ⊢
      have := hpi k (k + 1) (by omega) hk (by omega)
      omega
  · obtain ⟨j, hj, rfl⟩ := List.mem_iff_getElem.1 hx
    rcases Nat.lt_or_ge j k with hlt | hge
    · left
      obtain ⟨m, rfl⟩ : ∃ m, k = m + 1 := ⟨k - 1, by omega⟩
      rw [lastU_succ vs m (by omega)]
      rcases Nat.lt_or_ge j m with h1 | h1
      · exact hpi j m hj (by omega) h1
      · obtain rfl : j = m := by omega
        exact Int.le_refl _
    · right
      rcases Nat.lt_or_ge k j with h1 | h1
      · exact hpi k j hk hj h1
      · obtain rfl : j = k := by omega
        exact Int.le_refl _
theorem unit_end {vs : List Val} (h : vs.Pairwise ltV) : upTo vs (lastU vs vs.length) = vs := by
  refine upTo_all vs _ (fun x hx => ?_)
  have hpi := List.pairwise_iff_getElem.1 (units_le h)
  obtain ⟨j, hj, rfl⟩ := List.mem_iff_getElem.1 hx
  obtain ⟨m, hm⟩ : ∃ m, vs.length = m + 1 := ⟨vs.length - 1, by omega⟩
  rw [hm, lastU_succ vs m (by omega)]
  rcases Nat.lt_or_ge j m with h1 | h1
  · exact hpi j m hj (by omega) h1
  · obtain rfl : j = m := by omega
    exact Int.le_refl _
theorem unit_start {vs : List Val} (hg : ∀ v ∈ vs, 1 ≤ v.unit) : upTo vs (lastU vs 0) = [] := upTo_none vs _ (fun x hx => by rw [lastU_zero]; have := hg x hx; omega)
end Go.Proofs.YtiikniopjcnphaaDoor
