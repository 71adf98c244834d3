/- Word, Inherited, Allowed and Number of package element and of the reference: what they return. No condition. -/
import Derived.Test.YtiikniopjcnphaaGreatDoorE1
import Derived.Test.YtiikniopjcnphaaGreatDoorIdx
namespace Go.Proofs.YtiikniopjcnphaaGreatDoor
open Go.RowKit

@[go_sem] theorem field_kind0 (a b c : Value) (w : World) : (Instr.field 56 (.agg #[a, b, c]) 0).run Tryz.prog w = .ok a w := by kernel_rfl
@[go_sem] theorem field_kind1 (a b c : Value) (w : World) : (Instr.field 56 (.agg #[a, b, c]) 1).run Tryz.prog w = .ok b w := by kernel_rfl
@[go_sem] theorem field_kind2 (a b c : Value) (w : World) : (Instr.field 56 (.agg #[a, b, c]) 2).run Tryz.prog w = .ok c w := by kernel_rfl
set_option maxRecDepth 100000 in
theorem word_any (n : Int) (w : World) : Calls Tryz.prog 16 #[.int .i64 n] w fun e w' => e = .returned (.string (kindOf n).word) ∧ Grew w w' := by
  have ho := of_any n
  unfold Kind.agg at ho
  generalize kindOf n = k at ho ⊢
  have HO := Lib.hid ho
  clear ho
  go_enter Tryz.func16, Tryz.ntmps16
  go_wp2_with (first | (go_at_call 38; refine (HO.out _).mono ?_; rintro e w1 ⟨rfl, hb⟩))
  go_ret
  exact ⟨rfl, hb⟩
set_option maxRecDepth 100000 in
theorem inherited_any (n : Int) (w : World) : Calls Tryz.prog 18 #[.int .i64 n] w fun e w' => e = .returned (.bool (kindOf n).inh) ∧ Grew w w' := by
  have ho := of_any n
  unfold Kind.agg at ho
  generalize kindOf n = k at ho ⊢
  have HO := Lib.hid ho
  clear ho
  go_enter Tryz.func18, Tryz.ntmps18
  go_wp2_with (first | (go_at_call 38; refine (HO.out _).mono ?_; rintro e w1 ⟨rfl, hb⟩))
  go_ret
  exact ⟨rfl, hb⟩

/-- Whether an element can stand at a level. -/
def allowedF (n lv : Int) : Bool := decide (1 ≤ lv ∧ lv ≤ 4) && decide ((kindOf n).lev / 2 ^ lv.toNat % 2 = 1)
theorem lev_cases (n : Int) : (kindOf n).lev = 0 ∨ (kindOf n).lev = 6 ∨ (kindOf n).lev = 14 ∨ (kindOf n).lev = 24 ∨ (kindOf n).lev = 30 := by
  by_cases h : isEl n = true
  · rcases isEl_cases h with rfl | rfl | rfl | rfl | rfl | rfl | rfl | rfl <;> decide
  · exact .inl (by simp [kindOf, h, kind0])
set_option maxRecDepth 100000 in
set_option maxHeartbeats 1000000 in
theorem allowed_any (n lv : Int) (w : World) : Calls Tryz.prog 19 #[.int .i64 n, .int .i64 lv] w fun e w' => e = .returned (.bool (allowedF n lv)) ∧ Grew w w' := by
  by_cases h1 : 1 ≤ lv
  · by_cases h2 : lv ≤ 4
    · have hl := lev_cases n
      have hv : lv = 1 ∨ lv = 2 ∨ lv = 3 ∨ lv = 4 := by omega
      have ho := of_any n
      unfold Kind.agg at ho
      unfold allowedF
      generalize kindOf n = k at ho hl ⊢
      obtain ⟨ww, hh, L⟩ := k
      dsimp only at ho hl ⊢
      have HO := Lib.hid ho
      clear ho h1 h2
      rcases hv with rfl | rfl | rfl | rfl <;> rcases hl with rfl | rfl | rfl | rfl | rfl <;>
      · go_enter Tryz.func19, Tryz.ntmps19
        go_wp2_with (first | (go_at_call 38; refine (HO.out _).mono ?_; rintro e w1 ⟨rfl, hb⟩))
        go_ret
        exact ⟨rfl, hb⟩
    · have e : allowedF n lv = false := by simp only [allowedF, Bool.and_eq_false_iff, decide_eq_false_iff_not]; omega
      rw [e]
      clear e
      go_enter Tryz.func19, Tryz.ntmps19
      go_wp2
      go_ret
      exact ⟨rfl, Grew.refl w⟩
  · have e : allowedF n lv = false := by simp only [allowedF, Bool.and_eq_false_iff, decide_eq_false_iff_not]; omega
    rw [e]
    clear e
    go_enter Tryz.func19, Tryz.ntmps19
    go_wp2
    go_ret
    exact ⟨rfl, Grew.refl w⟩

theorem number1_any (B : Nat) (word : ByteArray) (W : World) (x : Kind) (hB : B < W.heap.size) (hc : W.cell? ⟨B, 0, none⟩ = some (.string word)) :
    Calls Tryz.prog 41 (#[x.agg] ++ #[.pointer (some ⟨B, 0, none⟩)]) W fun e w' => e = .returned (.bool (x.word.toList == word.toList)) ∧ Grew W w' := by
  unfold Kind.agg
  go_enter Tryz.func41, Tryz.ntmps41
  go_wp2
  go_ret
  exact ⟨rfl, (Grew.refl W).alloc _⟩

/-- The number of a word. -/
def numberF (word : ByteArray) : Int := max (idxP (fun k : Kind => k.word.toList == word.toList) kindTab) 0
theorem enters_number1 : ∀ args w, (callFunc 41 args).run Tryz.prog w = .ok (.enter 41 args) w := enters_of Tryz.func41 (by kernel_rfl) rfl
set_option maxRecDepth 100000 in
theorem number_any (word : ByteArray) (w : World) : Calls Tryz.prog 17 #[.string word] w fun e w' => e = .returned (.int .i64 (numberF word)) ∧ Grew w w' := by
  have hk : ∀ W, SlK ((W : World).alloc (.cells kindCells 58)) (.slice (some ⟨W.heap.size, 0, none⟩) 9 9) kindTab := fun W => Rd.fresh W _ 3 9 (kindTab.flatMap Kind.cells) (by decide) (by decide)
  have HK := Lib.hid hk
  clear hk
  unfold numberF
  generalize hp : (fun k : Kind => k.word.toList == word.toList) = p
  have HP := Lib.hid hp
  clear hp
  go_enter Tryz.func17, Tryz.ntmps17
  go_wp2_with (first | (go_at_call 39; refine (kinds_any' _).mono ?_; rintro e w1 ⟨rfl, hb⟩; have hsz := hb.size; obtain ⟨hc, hf⟩ := hb.cells) | (refine wpList_store_new rfl 58 _ _ rfl _ kindCells rfl rfl (by kernel_rfl) (by simp; rfl) (by decide) ?_))
  have hcb : ∀ W, Grew (w1.alloc (.cells kindCells 58)) W → w.heap.size < W.heap.size ∧ W.cell? ⟨w.heap.size, 0, none⟩ = some (.string word) := fun W hW => by
    have h1 := hW.size
    simp at h1 hsz
    refine ⟨by omega, ?_⟩
    rw [hW.cell (p := ⟨w.heap.size, 0, none⟩) (by simp; omega), World.cell?_alloc_lt _ _ _ (by show w.heap.size < w1.heap.size; omega), hc _ _ (by simp)]
    simp
  refine (indexFuncK kindTab p _ _ enters_number1 _ _ (HK.out w1) (fun W x hW _ => ?_)).mono ?_
  · rw [← HP.out]
    exact number1_any _ _ W x (hcb W hW).1 (hcb W hW).2
  rintro e w2 ⟨rfl, hb2⟩
  clear hcb hc hf
  go_wp2
  all_goals
    go_ret
    exact ⟨congrArg (fun z => Ending.returned (Value.int .i64 z)) (by omega), (((Grew.refl w).alloc _).trans hb).alloc _ |>.trans hb2⟩

def kindWords : List ByteArray := kindTab.map Kind.word
theorem kindTab_word (i : Nat) (h1 : 1 ≤ i) (h8 : i < kindWords.length) : kindWords[i] = (kindOf (i : Int)).word := by
  have h8' : i < 9 := h8
  have h : i = 1 ∨ i = 2 ∨ i = 3 ∨ i = 4 ∨ i = 5 ∨ i = 6 ∨ i = 7 ∨ i = 8 := by omega
  rcases h with rfl | rfl | rfl | rfl | rfl | rfl | rfl | rfl <;> rfl
def inhF (n : Int) : Bool := n == 2 || n == 3 || n == 4
theorem inhF_eq (n : Int) : (kindOf n).inh = inhF n := by
  by_cases h : isEl n = true
  · rcases isEl_cases h with rfl | rfl | rfl | rfl | rfl | rfl | rfl | rfl <;> decide
  · have h' := isEl_f (by simpa using h)
    have e : kindOf n = kind0 := by simp [kindOf, h]
    rw [e]
    symm
    simp only [inhF, Bool.or_eq_false_iff, beq_eq_false_iff_ne, kind0]
    omega
theorem allowed_not (n lv : Int) (h : isEl n = false ∨ ¬ (1 ≤ lv ∧ lv ≤ 4)) : allowedF n lv = false := by
  rcases h with h | h
  · have e : kindOf n = kind0 := by simp [kindOf, h]
    simp only [allowedF, e, kind0, Int.zero_ediv]
    simp
  · simp only [allowedF, Bool.and_eq_false_iff, decide_eq_false_iff_not]; exact .inl h
theorem numberF_hit (word : ByteArray) (k : Nat) (h1 : 1 ≤ k) (hk : k < kindWords.length) (hq : (kindWords[k].toList == word.toList) = true) (M : ∀ i (hi : i < kindWords.length), 1 ≤ i → i < k → (kindWords[i].toList == word.toList) = false) : (k : Int) = numberF word := by
  have hk' : k < 9 := hk
  have e : idxP (fun k : Kind => k.word.toList == word.toList) kindTab = (k : Int) := by
    refine idxP_hit _ kindTab k hk' (by have := hq; simp only [kindWords, List.getElem_map] at this; exact this) (fun i hi hik => ?_)
    rcases Nat.eq_zero_or_pos i with rfl | h0
    · have hw : word.toList = kindWords[k].toList := (beq_iff_eq.1 hq).symm
      show (kind0.word.toList == word.toList) = false
      rw [hw]
      have h : k = 1 ∨ k = 2 ∨ k = 3 ∨ k = 4 ∨ k = 5 ∨ k = 6 ∨ k = 7 ∨ k = 8 := by omega
      rcases h with rfl | rfl | rfl | rfl | rfl | rfl | rfl | rfl <;> simp [kindWords, kindTab, kind0]
    · have := M i (by simpa [kindWords] using hi) h0 hik
      simp only [kindWords, List.getElem_map] at this
      exact this
  unfold numberF
  omega
theorem numberF_miss (word : ByteArray) (M : ∀ i (hi : i < kindWords.length), 1 ≤ i → (kindWords[i].toList == word.toList) = false) : 0 = numberF word := by
  unfold numberF
  by_cases h0 : ((kind0.word.toList == word.toList) = true)
  · rw [idxP_hit _ kindTab 0 (by decide) h0 (fun i hi h => absurd h (Nat.not_lt_zero _))]
    rfl
  · rw [idxP_miss _ kindTab (fun i hi => ?_)]
    · rfl
    · rcases Nat.eq_zero_or_pos i with rfl | hp
      · show (kind0.word.toList == word.toList) = false
        simpa using h0
      · have := M i (by simpa [kindWords] using hi) hp
        simp only [kindWords, List.getElem_map] at this
        exact this
end Go.Proofs.YtiikniopjcnphaaGreatDoor
