/- Plain facts on texts and languages: no program in sight. No condition. -/
import Derived.Lib.SlTrimSet
namespace Go.Proofs.YtiikniopjcnphaaDoor

theorem dropW_self {p : UInt8 → Bool} {l : List UInt8} : l.dropWhile p = l ↔ ∀ b, l.head? = some b → p b = false := by
  cases l with
  | nil => simp
  | cons x r =>
    rw [List.dropWhile_cons]
    constructor
    · intro h b hb
      simp at hb
      subst hb
      by_cases hx : p x = true
      · rw [if_pos hx] at h
        have h1 := (List.dropWhile_sublist p (l := r)).length_le
        rw [h] at h1
        simp at h1
        omega
      · simpa using hx
    · intro h
      have := h x rfl
      simp [this]
theorem dropW_len {p : UInt8 → Bool} (l : List UInt8) : (l.dropWhile p).length ≤ l.length := (List.dropWhile_sublist p).length_le

theorem trim_self (l cs : List UInt8) : Lib.trimS l cs = l ↔ (∀ b, l.head? = some b → cs.contains b = false) ∧ (∀ b, l.getLast? = some b → cs.contains b = false) := by
  unfold Lib.trimS Lib.trimLeftS Lib.trimRightS
  have hr : (l.reverse.dropWhile (cs.contains ·)).reverse = l ↔ ∀ b, l.getLast? = some b → cs.contains b = false := by
    rw [← List.reverse_inj, List.reverse_reverse, dropW_self, List.head?_reverse]
  constructor
  · intro h
    have h1 := dropW_len (p := (cs.contains ·)) (l.reverse.dropWhile (cs.contains ·)).reverse
    have h2 := dropW_len (p := (cs.contains ·)) l.reverse
    rw [h] at h1
    simp at h1 h2
    have e : l.reverse.dropWhile (cs.contains ·) = l.reverse := (List.dropWhile_suffix _).eq_of_length (by simp; omega)
    have e' : (l.reverse.dropWhile (cs.contains ·)).reverse = l := by rw [e, List.reverse_reverse]
    refine ⟨?_, hr.1 e'⟩
    rw [e'] at h
    exact dropW_self.1 h
  · rintro ⟨h1, h2⟩
    rw [hr.2 h2]
    exact dropW_self.2 h1

theorem dropW_nil {p : UInt8 → Bool} {l : List UInt8} : l.dropWhile p = [] ↔ l.all p = true := by
  induction l with
  | nil => simp
  | cons x r ih =>
    rw [List.dropWhile_cons]
    by_cases hx : p x = true
    · simp [hx, ih]
    · simp [hx]
theorem dropW_head {p : UInt8 → Bool} (l : List UInt8) (b : UInt8) (h : (l.dropWhile p).head? = some b) : p b = false := by
  induction l with
  | nil => simp at h
  | cons x r ih =>
    rw [List.dropWhile_cons] at h
    by_cases hx : p x = true
    · rw [if_pos hx] at h; exact ih h
    · rw [if_neg hx] at h
      simp at h
      subst h
      simpa using hx

theorem trim_nil (l cs : List UInt8) : Lib.trimS l cs = [] ↔ l.all (cs.contains ·) = true := by
  unfold Lib.trimS Lib.trimLeftS Lib.trimRightS
  constructor
  · intro h
    rw [dropW_nil, List.all_reverse] at h
    cases hd : l.reverse.dropWhile (cs.contains ·) with
    | nil => rw [dropW_nil, List.all_reverse] at hd; exact hd
    | cons x r =>
      have h1 := dropW_head l.reverse x (by rw [hd]; rfl)
      rw [hd] at h
      have h2 : cs.contains x = true := by
        rw [List.all_eq_true] at h
        exact h x (by simp)
      rw [h1] at h2
      cases h2
  · intro h
    rw [← List.all_reverse] at h
    rw [dropW_nil.2 h]
    rfl

/-- A byte that a text can hold. -/
def okB (b : UInt8) : Bool := b == 10 || (decide (32 ≤ b) && decide (b ≤ 126))
def isTextF (l : List UInt8) : Bool := decide (1 ≤ l.length ∧ l.length ≤ 4096) && decide (Lib.trimS l [32, 10] = l) && l.all okB
def isLow (b : UInt8) : Bool := decide (97 ≤ b) && decide (b ≤ 122)
def isLangF (l : List UInt8) : Bool := decide (l.length = 2) && l.all isLow

def azL : List UInt8 := [97, 98, 99, 100, 101, 102, 103, 104, 105, 106, 107, 108, 109, 110, 111, 112, 113, 114, 115, 116, 117, 118, 119, 120, 121, 122]
theorem az_fin : ∀ n : Fin 256, azL.contains (UInt8.ofFin n) = isLow (UInt8.ofFin n) := by decide +kernel
theorem az_low (b : UInt8) : azL.contains b = isLow b := az_fin b.toFin
theorem lang_trim (l : List UInt8) (h : l.length = 2) : decide (Lib.trimS l azL = []) = isLangF l := by
  unfold isLangF
  rw [show decide (l.length = 2) = true by simpa using h, Bool.true_and]
  have e : l.all (azL.contains ·) = l.all isLow := by congr 1; funext b; exact az_low b
  rw [Bool.eq_iff_iff, decide_eq_true_iff, trim_nil, e]
theorem lang_len (l : List UInt8) (h : l.length ≠ 2) : isLangF l = false := by simp [isLangF, h]
theorem lang_two (a b : UInt8) : isLangF [a, b] = (isLow a && isLow b) := by simp [isLangF]
/-- How the reference says it. -/
theorem text_ref (l : List UInt8) (h1 : 1 ≤ l.length) (h2 : l.length ≤ 4096) (a z : UInt8) (ha : l.head? = some a) (hz : l.getLast? = some z) (hall : l.all okB = true) :
    isTextF l = (!(a == 32) && !(a == 10) && !(z == 32) && !(z == 10)) := by
  unfold isTextF
  rw [hall, show decide (1 ≤ l.length ∧ l.length ≤ 4096) = true by simp [h1, h2], Bool.true_and, Bool.and_true, Bool.eq_iff_iff, decide_eq_true_iff, trim_self]
  constructor
  · rintro ⟨h, k⟩
    have := h a ha
    have := k z hz
    simp_all
  · intro h
    refine ⟨fun b hb => ?_, fun b hb => ?_⟩
    · rw [ha] at hb; cases hb; simp_all
    · rw [hz] at hb; cases hb; simp_all
theorem text_bad (l : List UInt8) (h : l.all okB = false) : isTextF l = false := by simp [isTextF, h]
theorem text_len (l : List UInt8) (h : ¬ (1 ≤ l.length ∧ l.length ≤ 4096)) : isTextF l = false := by
  simp only [isTextF, Bool.and_eq_false_iff, decide_eq_false_iff_not]
  exact .inl (.inl h)
theorem text_trim (l : List UInt8) (h : Lib.trimS l [32, 10] ≠ l) : isTextF l = false := by simp [isTextF, h]
theorem text_all (l : List UInt8) (h1 : 1 ≤ l.length) (h2 : l.length ≤ 4096) (h : Lib.trimS l [32, 10] = l) : isTextF l = l.all okB := by simp [isTextF, h1, h2, h]
end Go.Proofs.YtiikniopjcnphaaDoor
