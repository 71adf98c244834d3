/- Word, Inherited, Allowed and Number of package element and of the reference: what they return. No condition. -/
import Derived.Test.YtiikniopjcnphaaDoorE1
import Derived.Test.YtiikniopjcnphaaDoorIdx
namespace Go.Proofs.YtiikniopjcnphaaDoor
open Go.RowKit

@[go_sem] theorem field_kind0 (a b c : Value) (w : World) : (Instr.field 54 (.agg #[a, b, c]) 0).run Tryd.prog w = .ok a w := by kernel_rfl
@[go_sem] theorem field_kind1 (a b c : Value) (w : World) : (Instr.field 54 (.agg #[a, b, c]) 1).run Tryd.prog w = .ok b w := by kernel_rfl
@[go_sem] theorem field_kind2 (a b c : Value) (w : World) : (Instr.field 54 (.agg #[a, b, c]) 2).run Tryd.prog w = .ok c w := by kernel_rfl
set_option maxRecDepth 100000 in
theorem word_any (n : Int) (w : World) : Calls Tryd.prog 10 #[.int .i64 n] w fun e w' => e = .returned (.string (kindOf n).word) ∧ Grew w w' := by
  have ho := of_any n
  unfold Kind.agg at ho
  generalize kindOf n = k at ho ⊢
  have HO := Lib.hid ho
  clear ho
  go_enter Tryd.func10, Tryd.ntmps10
  go_wp2_with (first | (go_at_call 35; refine (HO.out _).mono ?_; rintro e w1 ⟨rfl, hb⟩))
  go_ret
  exact ⟨rfl, hb⟩
set_option maxRecDepth 100000 in
theorem inherited_any (n : Int) (w : World) : Calls Tryd.prog 14 #[.int .i64 n] w fun e w' => e = .returned (.bool (kindOf n).inh) ∧ Grew w w' := by
  have ho := of_any n
  unfold Kind.agg at ho
  generalize kindOf n = k at ho ⊢
  have HO := Lib.hid ho
  clear ho
  go_enter Tryd.func14, Tryd.ntmps14
  go_wp2_with (first | (go_at_call 35; refine (HO.out _).mono ?_; rintro e w1 ⟨rfl, hb⟩))
  go_ret
  exact ⟨rfl, hb⟩

/-- Whether an element can stand at a level. -/
def allowedF (n lv : Int) : Bool := decide (1 ≤ lv ∧ lv ≤ 4) && decide ((kindOf n).lev / 2 ^ lv.toNat % 2 = 1)
theorem lev_cases (n : Int) : (kindOf n).lev = 0 ∨ (kindOf n).lev = 6 ∨ (kindOf n).lev = 14 ∨ (kindOf n).lev = 24 ∨ (kindOf n).lev = 30 := by
  by_cases h : isEl n = true
  · rcases isEl_cases h with rfl | rfl | rfl | rfl | rfl | rfl | rfl | rfl <;> decide
  · exact .inl (by simp [kindOf, h, kind0])
set_option maxRecDepth 100000 in
set_option maxHeartbeats 1000000 in
theorem allowed_any (n lv : Int) (w : World) : Calls Tryd.prog 16 #[.int .i64 n, .int .i64 lv] w fun e w' => e = .returned (.bool (allowedF n lv)) ∧ Grew w w' := by
  by_cases h1 : 1 ≤ lv
  · by_cases h2 : lv ≤ 4
    · have hl := lev_cases n
      have hv : lv = 1 ∨ lv = 2 ∨ lv = 3 ∨ lv = 4 := by omega
      have ho := of_any n
      unfold Kind.agg at ho
      unfold allowedF
      generalize kindOf n = k at ho hl ⊢
      obtain ⟨ww, hh, L⟩ := k
      dsimp only at ho hl ⊢
      have HO := Lib.hid ho
      clear ho h1 h2
      rcases hv with rfl | rfl | rfl | rfl <;> rcases hl with rfl | rfl | rfl | rfl | rfl <;>
      · go_enter Tryd.func16, Tryd.ntmps16
        go_wp2_with (first | (go_at_call 35; refine (HO.out _).mono ?_; rintro e w1 ⟨rfl, hb⟩))
        go_ret
        exact ⟨rfl, hb⟩
    · have e : allowedF n lv = false := by simp only [allowedF, Bool.and_eq_false_iff, decide_eq_false_iff_not]; omega
      rw [e]
      clear e
      go_enter Tryd.func16, Tryd.ntmps16
      go_wp2
      go_ret
      exact ⟨rfl, Grew.refl w⟩
  · have e : allowedF n lv = false := by simp only [allowedF, Bool.and_eq_false_iff, decide_eq_false_iff_not]; omega
    rw [e]
    clear e
    go_enter Tryd.func16, Tryd.ntmps16
    go_wp2
    go_ret
    exact ⟨rfl, Grew.refl w⟩

theorem number1_any (B : Nat) (word : ByteArray) (W : World) (x : Kind) (hB : B < W.heap.size) (hc : W.cell? ⟨B, 0, none⟩ = some (.string word)) :
    Calls Tryd.prog 40 (#[x.agg] ++ #[.pointer (some ⟨B, 0, none⟩)]) W fun e w' => e = .returned (.bool (x.word.toList == word.toList)) ∧ Grew W w' := by
  unfold Kind.agg
  go_enter Tryd.func40, Tryd.ntmps40
  go_wp2
  go_ret
  exact ⟨rfl, (Grew.refl W).alloc _⟩

/-- The number of a word. -/
def numberF (word : ByteArray) : Int := max (idxP (fun k : Kind => k.word.toList == word.toList) kindTab) 0
theorem enters_number1 : ∀ args w, (callFunc 40 args).run Tryd.prog w = .ok (.enter 40 args) w := enters_of Tryd.func40 (by kernel_rfl) rfl
set_option maxRecDepth 100000 in
theorem number_any (word : ByteArray) (w : World) : Calls Tryd.prog 12 #[.string word] w fun e w' => e = .returned (.int .i64 (numberF word)) ∧ Grew w w' := by
  have hk : ∀ W, SlK ((W : World).alloc (.cells kindCells 57)) (.slice (some ⟨W.heap.size, 0, none⟩) 9 9) kindTab := fun W => Rd.fresh W _ 3 9 (kindTab.flatMap Kind.cells) (by decide) (by decide)
  have HK := Lib.hid hk
  clear hk
  unfold numberF
  generalize hp : (fun k : Kind => k.word.toList == word.toList) = p
  have HP := Lib.hid hp
  clear hp
  go_enter Tryd.func12, Tryd.ntmps12
  go_wp2_with (first | (go_at_call 38; refine (kinds_any' _).mono ?_; rintro e w1 ⟨rfl, hb⟩; have hsz := hb.size; obtain ⟨hc, hf⟩ := hb.cells) | (refine wpList_store_new rfl 57 _ _ rfl _ kindCells rfl rfl (by kernel_rfl) (by simp; rfl) (by decide) ?_))
  have hcb : ∀ W, Grew (w1.alloc (.cells kindCells 57)) W → w.heap.size < W.heap.size ∧ W.cell? ⟨w.heap.size, 0, none⟩ = some (.string word) := fun W hW => by
    have h1 := hW.size
    simp at h1 hsz
    refine ⟨by omega, ?_⟩
    rw [hW.cell (p := ⟨w.heap.size, 0, none⟩) (by simp; omega), World.cell?_alloc_lt _ _ _ (by show w.heap.size < w1.heap.size; omega), hc _ _ (by simp)]
    simp
  refine (indexFuncK kindTab p _ _ enters_number1 _ _ (HK.out w1) (fun W x hW _ => ?_)).mono ?_
  · rw [← HP.out]
    exact number1_any _ _ W x (hcb W hW).1 (hcb W hW).2
  rintro e w2 ⟨rfl, hb2⟩
  clear hcb hc hf
  go_wp2
  all_goals
    go_ret
    exact ⟨congrArg (fun z => Ending.returned (Value.int .i64 z)) (by omega), (((Grew.refl w).alloc _).trans hb).alloc _ |>.trans hb2⟩

def kindWords : List ByteArray := kindTab.map Kind.word
theorem words_any (w : World) : Calls Tryd.prog 37 #[] w fun e w' => e = .returned (.slice (some ⟨w.heap.size, 0, none⟩) 9 9) ∧ (∀ i (hi : i < kindWords.length), w'.cell? ⟨w.heap.size, i, none⟩ = some (.string kindWords[i])) ∧ w.heap.size < w'.heap.size ∧ Grew w w' := by
  go_enter Tryd.func37, Tryd.ntmps37
  go_wp2
  go_ret
  refine ⟨rfl, fun i hi => ?_, by simp, (Grew.refl w).alloc _⟩
  have hi' : i < 9 := hi
  have h : i = 0 ∨ i = 1 ∨ i = 2 ∨ i = 3 ∨ i = 4 ∨ i = 5 ∨ i = 6 ∨ i = 7 ∨ i = 8 := by omega
  rcases h with rfl | rfl | rfl | rfl | rfl | rfl | rfl | rfl | rfl <;> simp [kindWords, kindTab, kind0]
theorem kindTab_word (i : Nat) (h1 : 1 ≤ i) (h8 : i < kindWords.length) : kindWords[i] = (kindOf (i : Int)).word := by
  have h8' : i < 9 := h8
  have h : i = 1 ∨ i = 2 ∨ i = 3 ∨ i = 4 ∨ i = 5 ∨ i = 6 ∨ i = 7 ∨ i = 8 := by omega
  rcases h with rfl | rfl | rfl | rfl | rfl | rfl | rfl | rfl <;> rfl
theorem refWord_any (n : Int) (w : World) : Calls Tryd.prog 11 #[.int .i64 n] w fun e w' => e = .returned (.string (kindOf n).word) ∧ Grew w w' := by
  by_cases h : isEl n = true
  · obtain ⟨h1, h8⟩ := isEl_t h
    obtain ⟨i, rfl⟩ := Int.eq_ofNat_of_zero_le (a := n) (by omega)
    have hi : i < kindWords.length := by show i < 9; omega
    have HW := Lib.hid (kindTab_word i (by omega) hi)
    have hk := Lib.hid h
    clear h
    go_enter Tryd.func11, Tryd.ntmps11
    go_wp2_with (first | (go_at_call 36; refine (isElement_t _ _ hk.out).mono ?_; rintro e w1 ⟨rfl, rfl⟩) | (go_at_call 37; refine (words_any _).mono ?_; rintro e w1 ⟨rfl, hcell, hlt, hb⟩; have hci := hcell i hi; rw [HW.out] at hci; clear hcell))
    go_ret
    exact ⟨rfl, hb⟩
  · have e : kindOf n = kind0 := by simp [kindOf, h]
    rw [e]
    simp only [Bool.not_eq_true] at h
    have hk := Lib.hid h
    clear h e
    go_enter Tryd.func11, Tryd.ntmps11
    go_wp2_with (first | (go_at_call 36; refine (isElement_f _ _ hk.out).mono ?_; rintro e w1 ⟨rfl, rfl⟩))
    go_ret
    exact ⟨rfl, Grew.refl _⟩
def inhF (n : Int) : Bool := n == 2 || n == 3 || n == 4
theorem inhF_eq (n : Int) : (kindOf n).inh = inhF n := by
  by_cases h : isEl n = true
  · rcases isEl_cases h with rfl | rfl | rfl | rfl | rfl | rfl | rfl | rfl <;> decide
  · have h' := isEl_f (by simpa using h)
    have e : kindOf n = kind0 := by simp [kindOf, h]
    rw [e]
    symm
    simp only [inhF, Bool.or_eq_false_iff, beq_eq_false_iff_ne, kind0]
    omega
theorem refInherited_any (n : Int) (w : World) : Calls Tryd.prog 15 #[.int .i64 n] w fun e w' => e = .returned (.bool (kindOf n).inh) ∧ w = w' := by
  rw [inhF_eq]
  by_cases h2 : n = 2
  · subst h2
    go_enter Tryd.func15, Tryd.ntmps15
    go_wp2
    go_ret
    exact ⟨rfl, rfl⟩
  by_cases h3 : n = 3
  · subst h3
    go_enter Tryd.func15, Tryd.ntmps15
    go_wp2
    go_ret
    exact ⟨rfl, rfl⟩
  have e2 : (n == 2) = false := by simpa using h2
  have e3 : (n == 3) = false := by simpa using h3
  unfold inhF
  rw [e2, e3]
  simp only [Bool.false_or]
  go_enter Tryd.func15, Tryd.ntmps15
  go_wp2
  all_goals (go_ret; exact ⟨rfl, rfl⟩)
theorem allowed_not (n lv : Int) (h : isEl n = false ∨ ¬ (1 ≤ lv ∧ lv ≤ 4)) : allowedF n lv = false := by
  rcases h with h | h
  · have e : kindOf n = kind0 := by simp [kindOf, h]
    simp only [allowedF, e, kind0, Int.zero_ediv]
    simp
  · simp only [allowedF, Bool.and_eq_false_iff, decide_eq_false_iff_not]; exact .inl h
set_option maxHeartbeats 2000000 in
theorem refAllowed_any (n lv : Int) (w : World) : Calls Tryd.prog 17 #[.int .i64 n, .int .i64 lv] w fun e w' => e = .returned (.bool (allowedF n lv)) ∧ w = w' := by
  by_cases h : isEl n = true
  · by_cases h1 : 1 ≤ lv
    · by_cases h4 : lv ≤ 4
      · have hv : lv = 1 ∨ lv = 2 ∨ lv = 3 ∨ lv = 4 := by omega
        have hk := Lib.hid h
        have hn := isEl_cases h
        clear h h1 h4
        rcases hv with rfl | rfl | rfl | rfl <;> rcases hn with rfl | rfl | rfl | rfl | rfl | rfl | rfl | rfl <;>
        · go_enter Tryd.func17, Tryd.ntmps17
          go_wp2_with (first | (go_at_call 36; refine (isElement_t _ _ hk.out).mono ?_; rintro e w1 ⟨rfl, rfl⟩))
          go_ret
          exact ⟨rfl, rfl⟩
      · rw [allowed_not n lv (.inr (by omega))]
        have hk := Lib.hid h
        clear h
        go_enter Tryd.func17, Tryd.ntmps17
        go_wp2_with (first | (go_at_call 36; refine (isElement_t _ _ hk.out).mono ?_; rintro e w1 ⟨rfl, rfl⟩))
        go_ret
        exact ⟨rfl, rfl⟩
    · rw [allowed_not n lv (.inr (by omega))]
      have hk := Lib.hid h
      clear h
      go_enter Tryd.func17, Tryd.ntmps17
      go_wp2_with (first | (go_at_call 36; refine (isElement_t _ _ hk.out).mono ?_; rintro e w1 ⟨rfl, rfl⟩))
      go_ret
      exact ⟨rfl, rfl⟩
  · simp only [Bool.not_eq_true] at h
    rw [allowed_not n lv (.inl h)]
    have hk := Lib.hid h
    clear h
    go_enter Tryd.func17, Tryd.ntmps17
    go_wp2_with (first | (go_at_call 36; refine (isElement_f _ _ hk.out).mono ?_; rintro e w1 ⟨rfl, rfl⟩))
    go_ret
    exact ⟨rfl, rfl⟩

theorem numberF_hit (word : ByteArray) (k : Nat) (h1 : 1 ≤ k) (hk : k < kindWords.length) (hq : (kindWords[k].toList == word.toList) = true) (M : ∀ i (hi : i < kindWords.length), 1 ≤ i → i < k → (kindWords[i].toList == word.toList) = false) : (k : Int) = numberF word := by
  have hk' : k < 9 := hk
  have e : idxP (fun k : Kind => k.word.toList == word.toList) kindTab = (k : Int) := by
    refine idxP_hit _ kindTab k hk' (by have := hq; simp only [kindWords, List.getElem_map] at this; exact this) (fun i hi hik => ?_)
    rcases Nat.eq_zero_or_pos i with rfl | h0
    · have hw : word.toList = kindWords[k].toList := (beq_iff_eq.1 hq).symm
      show (kind0.word.toList == word.toList) = false
      rw [hw]
      have h : k = 1 ∨ k = 2 ∨ k = 3 ∨ k = 4 ∨ k = 5 ∨ k = 6 ∨ k = 7 ∨ k = 8 := by omega
      rcases h with rfl | rfl | rfl | rfl | rfl | rfl | rfl | rfl <;> simp [kindWords, kindTab, kind0]
    · have := M i (by simpa [kindWords] using hi) h0 hik
      simp only [kindWords, List.getElem_map] at this
      exact this
  unfold numberF
  omega
theorem numberF_miss (word : ByteArray) (M : ∀ i (hi : i < kindWords.length), 1 ≤ i → (kindWords[i].toList == word.toList) = false) : 0 = numberF word := by
  unfold numberF
  by_cases h0 : ((kind0.word.toList == word.toList) = true)
  · rw [idxP_hit _ kindTab 0 (by decide) h0 (fun i hi h => absurd h (Nat.not_lt_zero _))]
    rfl
  · rw [idxP_miss _ kindTab (fun i hi => ?_)]
    · rfl
    · rcases Nat.eq_zero_or_pos i with rfl | hp
      · show (kind0.word.toList == word.toList) = false
        simpa using h0
      · have := M i (by simpa [kindWords] using hi) hp
        simp only [kindWords, List.getElem_map] at this
        exact this
set_option maxHeartbeats 1000000 in
theorem refNumber_any (word : ByteArray) (w : World) : Calls Tryd.prog 13 #[.string word] w fun e w' => e = .returned (.int .i64 (numberF word)) ∧ Grew w w' := by
  go_enter Tryd.func13, Tryd.ntmps13
  go_wp2_with (first | (go_at_call 37; refine (words_any _).mono ?_; rintro e w1 ⟨rfl, hcell, hlt, hb⟩; have HC := Lib.hid hcell; clear hcell))
  go_loop [4] (fun i => ∃ k : Nat, 1 ≤ k ∧ k ≤ 9 ∧ i = .int .i64 k ∧ Aside (∀ i (hi : i < kindWords.length), 1 ≤ i → i < k → (kindWords[i].toList == word.toList) = false)) (fun i => 9 - (intOf i).toNat)
  case atStart => exact ⟨1, by omega, by omega, rfl, fun i hi h1 h2 => by omega⟩
  case round =>
    obtain ⟨k, h1, hk, rfl, M⟩ := hrel
    by_cases hlt9 : k < 9
    · have hkl : k < kindWords.length := hlt9
      have hc := HC.out k hkl
      cases hq : (kindWords[k].toList == word.toList) with
      | true =>
        have Hh := Lib.hid (numberF_hit word k h1 hkl hq M.out)
        generalize kindWords[k] = y at hc hq
        clear hkl
        go_wp2
        go_ret
        exact ⟨congrArg (fun z => Ending.returned (Value.int .i64 z)) Hh.out, hb⟩
      | false =>
        have Hq : Aside ((kindWords[k].toList == word.toList) = false) := hq
        generalize kindWords[k] = y at hc hq
        go_wp2
        go_round
        case rel =>
          refine ⟨k + 1, by omega, by omega, by go_num, fun i hi h1 h2 => ?_⟩
          by_cases e : i = k
          · subst e; exact Hq.out
          · exact M.out i hi h1 (by omega)
        case measure => simp [intOf]; omega
    · have Hm := Lib.hid (numberF_miss word (fun i hi h1 => M.out i hi h1 (by have : i < 9 := hi; omega)))
      go_wp2
      go_ret
      exact ⟨congrArg (fun z => Ending.returned (Value.int .i64 z)) Hm.out, hb⟩
end Go.Proofs.YtiikniopjcnphaaDoor
