/- Plain facts on the insertion sort that brings one string to the front: no program in sight. No condition. -/
import Derived.Sort.Defs
namespace Go.Proofs.YtiikniopjcnphaaDoor
open Go.Sort
variable {α : Type} [Inhabited α]

theorem swp_mid (p s : List α) (r x : α) : swp (p ++ r :: x :: s).toArray (p.length + 1) p.length = (p ++ x :: r :: s).toArray := by
  unfold swp
  have h1 : (p ++ r :: x :: s).toArray[p.length]! = r := by simp
  have h2 : (p ++ r :: x :: s).toArray[p.length + 1]! = x := by simp
  rw [h1, h2, List.setIfInBounds_toArray, List.setIfInBounds_toArray]
  congr 1
  dsimp only
  rw [List.set_append_right _ _ (by omega), List.set_append_right _ _ (by omega)]
  simp

/-- x goes left past rs and stops behind ws. -/
theorem insInner_move (lt : α → α → Bool) (ws : List α) (x : α) (s : List α) (hstop : ws = [] ∨ ∃ t z, ws = t ++ [z] ∧ lt x z = false) : ∀ (rs : List α), (∀ r ∈ rs, lt x r = true) →
    insInner lt 0 (ws ++ rs).length (ws ++ rs ++ x :: s).toArray = (ws ++ x :: rs ++ s).toArray := by
  intro rs
  generalize hn : rs.length = n
  induction n generalizing rs s with
  | zero =>
    intro _
    obtain rfl : rs = [] := List.eq_nil_of_length_eq_zero hn
    simp only [List.append_nil]
    rcases hstop with rfl | ⟨t, z, rfl, hz⟩
    · simp [insInner]
    · rw [show (t ++ [z]).length = t.length + 1 by simp, insInner]
      have h1 : ((t ++ [z]) ++ x :: s).toArray[t.length + 1]! = x := by simp
      have h2 : ((t ++ [z]) ++ x :: s).toArray[t.length]! = z := by simp
      rw [h1, h2, hz]
      simp
  | succ n ih =>
    intro h
    obtain ⟨q, r, rfl⟩ : ∃ q r, rs = q ++ [r] := by
      rcases List.eq_nil_or_concat rs with rfl | ⟨q, r, e⟩
      · simp at hn
      · exact ⟨q, r, by simpa using e⟩
    have hq : q.length = n := by simpa using hn
    rw [show (ws ++ (q ++ [r])).length = (ws ++ q).length + 1 by simp [Nat.add_assoc], insInner]
    have e : ws ++ (q ++ [r]) ++ x :: s = (ws ++ q) ++ r :: x :: s := by simp
    rw [e]
    have h1 : ((ws ++ q) ++ r :: x :: s).toArray[(ws ++ q).length + 1]! = x := by
      generalize ws ++ q = t
      simp
    have h2 : ((ws ++ q) ++ r :: x :: s).toArray[(ws ++ q).length]! = r := by
      generalize ws ++ q = t
      simp
    rw [h1, h2, h r (by simp), swp_mid (ws ++ q) s r x]
    simp only [Nat.zero_lt_succ, gt_iff_lt, decide_true, Bool.and_self, if_true]
    rw [ih (r :: s) q hq (fun r' hr' => h r' (by simp [hr']))]
    simp
/-- x stays where it is. -/
theorem insInner_stay (lt : α → α → Bool) (p : List α) (x : α) (s : List α) (h : ∀ r ∈ p, lt x r = false) : insInner lt 0 p.length (p ++ x :: s).toArray = (p ++ x :: s).toArray := by
  rcases List.eq_nil_or_concat p with rfl | ⟨q, r, e⟩
  · simp [insInner]
  · have e' : p = q ++ [r] := by simpa using e
    have := insInner_move lt p x s (.inr ⟨q, r, e', h r (by simp [e'])⟩) [] (by simp)
    simpa using this

/-- What the sort does that brings the elements of which f holds to the front. -/
def front (f : α → Bool) (l : List α) : List α := l.filter f ++ l.filter fun x => !f x
omit [Inhabited α] in
theorem front_snoc (f : α → Bool) (l : List α) (x : α) : front f (l ++ [x]) = if f x then l.filter f ++ x :: l.filter (fun x => !f x) else front f l ++ [x] := by
  unfold front
  by_cases h : f x = true
  · simp [h]
  · simp only [Bool.not_eq_true] at h
    simp [h]
omit [Inhabited α] in
theorem len_split (f : α → Bool) (p : List α) : (p.filter f).length + (p.filter fun x => !f x).length = p.length := by
  induction p with
  | nil => rfl
  | cons x r ih =>
    by_cases h : f x = true
    · simp [h]; omega
    · simp only [Bool.not_eq_true] at h
      simp [h]; omega
theorem insStep (lt : α → α → Bool) (f : α → Bool) (p : List α) (x : α) (s : List α) (h1 : ∀ r ∈ p, f x = true → f r = false → lt x r = true) (h2 : ∀ r ∈ p, f x = true → f r = true → lt x r = false) (h3 : ∀ r ∈ p, f x = false → lt x r = false) :
    insInner lt 0 p.length (front f p ++ x :: s).toArray = (front f (p ++ [x]) ++ s).toArray := by
  have hlen : (front f p).length = p.length := by
    unfold front
    rw [List.length_append]
    exact len_split f p
  rw [front_snoc]
  by_cases hx : f x = true
  · rw [if_pos hx]
    have := insInner_move lt (p.filter f) x s (by
      rcases List.eq_nil_or_concat (p.filter f) with e | ⟨t, z, e⟩
      · exact .inl e
      · have e' : p.filter f = t ++ [z] := by simpa using e
        have hz : z ∈ p.filter f := by rw [e']; simp
        rw [List.mem_filter] at hz
        exact .inr ⟨t, z, e', h2 z hz.1 hx hz.2⟩) (p.filter fun x => !f x) (fun r hr => by
        rw [List.mem_filter] at hr
        exact h1 r hr.1 hx (by simpa using hr.2))
    rw [show (p.filter f ++ p.filter fun x => !f x).length = p.length from hlen] at this
    unfold front
    rw [this]
  · simp only [Bool.not_eq_true] at hx
    rw [hx]
    simp only [Bool.false_eq_true, if_false]
    have := insInner_stay lt (front f p) x s (fun r hr => h3 r (by
      unfold front at hr
      simp only [List.mem_append, List.mem_filter] at hr
      rcases hr with hr | hr <;> exact hr.1) hx)
    rw [hlen] at this
    rw [this]
    simp
theorem insOuter_front (lt : α → α → Bool) (f : α → Bool) (l : List α) (h1 : ∀ x ∈ l, ∀ r ∈ l, f x = true → f r = false → lt x r = true) (h2 : ∀ x ∈ l, ∀ r ∈ l, f x = true → f r = true → lt x r = false) (h3 : ∀ x ∈ l, ∀ r ∈ l, f x = false → lt x r = false) :
    ∀ (n i : Nat), l.length - i = n → i ≤ l.length → insOuter lt 0 l.length i (front f (l.take i) ++ l.drop i).toArray = (front f l).toArray := by
  intro n
  induction n with
  | zero =>
    intro i hn hi
    obtain rfl : i = l.length := by omega
    rw [insOuter, if_neg (by omega)]
    simp
  | succ n ih =>
    intro i hn hi
    have hlt : i < l.length := by omega
    rw [insOuter, if_pos hlt, List.drop_eq_getElem_cons hlt]
    have hs := insStep lt f (l.take i) l[i] (l.drop (i + 1)) (fun r hr => h1 _ (List.getElem_mem hlt) r (List.mem_of_mem_take hr)) (fun r hr => h2 _ (List.getElem_mem hlt) r (List.mem_of_mem_take hr)) (fun r hr => h3 _ (List.getElem_mem hlt) r (List.mem_of_mem_take hr))
    rw [List.length_take, Nat.min_eq_left (by omega)] at hs
    rw [hs, ← List.take_succ_eq_append_getElem hlt]
    exact ih (i + 1) (by omega) (by omega)
theorem insertionSort_front (lt : α → α → Bool) (f : α → Bool) (l : List α) (h1 : ∀ x ∈ l, ∀ r ∈ l, f x = true → f r = false → lt x r = true) (h2 : ∀ x ∈ l, ∀ r ∈ l, f x = true → f r = true → lt x r = false) (h3 : ∀ x ∈ l, ∀ r ∈ l, f x = false → lt x r = false) :
    insertionSort lt l.toArray 0 l.length = (front f l).toArray := by
  cases l with
  | nil =>
    unfold insertionSort
    rw [insOuter, if_neg (by simp)]
    rfl
  | cons x r =>
    have h := insOuter_front lt f (x :: r) h1 h2 h3 _ 1 rfl (by simp)
    have e : front f ((x :: r).take 1) ++ (x :: r).drop 1 = x :: r := by
      by_cases hx : f x = true
      · simp [front, hx]
      · simp only [Bool.not_eq_true] at hx
        simp [front, hx]
    rw [e] at h
    exact h
end Go.Proofs.YtiikniopjcnphaaDoor
