/- Texts and languages: what the functions that check them return. No condition. -/
import Derived.Test.YtiikniopjcnphaaDoorE2
import Derived.Test.YtiikniopjcnphaaDoorShelf
import Derived.Test.YtiikniopjcnphaaDoorPlainA
namespace Go.Proofs.YtiikniopjcnphaaDoor
open Go.RowKit

theorem azBA : (⟨#[97, 98, 99, 100, 101, 102, 103, 104, 105, 106, 107, 108, 109, 110, 111, 112, 113, 114, 115, 116, 117, 118, 119, 120, 121, 122]⟩ : ByteArray).data.toList = azL := rfl
theorem ascii_az : ∀ (j : Nat) b, azL[j]? = some b → b.toNat < 128 := by
  intro j b h
  have hm := List.mem_of_getElem? h
  have ha : azL.all (fun b => decide (b.toNat < 128)) = true := by decide
  rw [List.all_eq_true] at ha
  simpa using ha b hm
theorem language_any (s : ByteArray) (w : World) : Calls Tryd.prog 41 #[.string s] w fun e w' => e = .returned (.bool (isLangF s.data.toList)) ∧ Grew w w' := by
  by_cases h : s.size = 2
  · have hl : s.data.toList.length = 2 := by rw [← h]; cases s; rfl
    rw [← lang_trim _ hl]
    have hb : ((s.size : Int) == 2) = true := by simp; omega
    have hs : s.size ≤ 9223372036854775807 := by omega
    have ht := fun w => Tryd.strings_Trim s ⟨#[97, 98, 99, 100, 101, 102, 103, 104, 105, 106, 107, 108, 109, 110, 111, 112, 113, 114, 115, 116, 117, 118, 119, 120, 121, 122]⟩ w hs (by decide) ascii_az
    rw [azBA] at ht
    generalize Lib.trimS s.data.toList azL = T at ht ⊢
    have HT := Lib.hid ht
    clear ht hl h
    go_enter Tryd.func41, Tryd.ntmps41
    go_wp2_with (first | (go_at_call 46; refine (HT.out _).mono ?_; rintro e w1 ⟨rfl, hg⟩))
    go_ret
    exact ⟨by cases T <;> rfl, hg⟩
  · have hl : s.data.toList.length ≠ 2 := by intro e; apply h; rw [← e]; cases s; rfl
    rw [lang_len _ hl]
    have hb : ((s.size : Int) == 2) = false := by simp; omega
    clear hl h
    go_enter Tryd.func41, Tryd.ntmps41
    go_wp2
    go_ret
    exact ⟨rfl, Grew.refl w⟩
theorem languages1_any (s : ByteArray) (w : World) : Calls Tryd.prog 48 #[.string s] w fun e w' => e = .returned (.bool (!isLangF s.data.toList)) ∧ Grew w w' := by
  have hl := language_any s
  generalize isLangF s.data.toList = b at hl ⊢
  have HL := Lib.hid hl
  clear hl
  go_enter Tryd.func48, Tryd.ntmps48
  go_wp2_with (first | (go_at_call 41; refine (HL.out _).mono ?_; rintro e w1 ⟨rfl, hg⟩))
  go_ret
  exact ⟨rfl, hg⟩

theorem size_data (s : ByteArray) : s.data.toList.length = s.size := by cases s; rfl
theorem toList_data (s : ByteArray) : s.toList = s.data.toList := ByteArray.toList_eq s
theorem okB_int (b : UInt8) : okB b = true ↔ (b.toNat : Int) = 10 ∨ 32 ≤ (b.toNat : Int) ∧ (b.toNat : Int) ≤ 126 := by
  simp only [okB, Bool.or_eq_true, beq_iff_eq, Bool.and_eq_true, decide_eq_true_iff, UInt8.le_iff_toNat_le, ← UInt8.toNat_inj]
  have h1 : (10 : UInt8).toNat = 10 := rfl
  have h2 : (32 : UInt8).toNat = 32 := rfl
  have h3 : (126 : UInt8).toNat = 126 := rfl
  omega
theorem all_take (p : UInt8 → Bool) (s : ByteArray) (h : ∀ j (hj : j < s.size), p s[j] = true) : s.data.toList.all p = true := by
  rw [List.all_eq_true]
  intro b hb
  obtain ⟨j, hj, rfl⟩ := List.getElem_of_mem hb
  exact h j (by rw [size_data] at hj; exact hj)
theorem all_bad (p : UInt8 → Bool) (s : ByteArray) (j : Nat) (hj : j < s.size) (h : p s[j] = false) : s.data.toList.all p = false := by
  rw [Bool.eq_false_iff]
  intro ha
  rw [List.all_eq_true] at ha
  have := ha s[j] (by have := List.getElem_mem (l := s.data.toList) (n := j) (by rw [size_data]; exact hj); exact this)
  rw [h] at this
  cases this
theorem ascii_edge : ∀ (j : Nat) b, (⟨#[32, 10]⟩ : ByteArray).data.toList[j]? = some b → b.toNat < 128 := by
  intro j b h
  have hm := List.mem_of_getElem? h
  simp at hm
  rcases hm with rfl | rfl <;> decide

set_option maxHeartbeats 1000000 in
theorem isText_any (s : ByteArray) (w : World) : Calls Tryd.prog 22 #[.string s] w fun e w' => e = .returned (.bool (isTextF s.data.toList)) ∧ Grew w w' := by
  have hsd := size_data s
  by_cases h0 : s.size = 0
  · rw [text_len _ (by omega)]
    have he : s.toList.isEmpty = true := by rw [toList_data, List.isEmpty_iff]; exact List.eq_nil_of_length_eq_zero (by omega)
    clear hsd
    go_enter Tryd.func22, Tryd.ntmps22
    go_wp2
    go_ret
    exact ⟨rfl, Grew.refl w⟩
  have he : s.toList.isEmpty = false := by rw [toList_data, Bool.eq_false_iff]; intro h; rw [List.isEmpty_iff] at h; rw [h] at hsd; simp at hsd; omega
  by_cases h1 : 4096 < s.size
  · rw [text_len _ (by omega)]
    have h1' : (4096 : Int) < (s.size : Int) := by omega
    clear hsd
    go_enter Tryd.func22, Tryd.ntmps22
    go_wp2
    go_ret
    exact ⟨rfl, Grew.refl w⟩
  have h1' : ¬ (4096 : Int) < (s.size : Int) := by omega
  have ht := fun w => Tryd.strings_Trim s ⟨#[32, 10]⟩ w (by omega) (by decide) ascii_edge
  by_cases h2 : Lib.trimS s.data.toList [32, 10] = s.data.toList
  · have ha := text_all _ (by omega) (by omega) h2
    rw [ha]
    generalize hBe : s.data.toList.all okB = B
    have HB := Lib.hid hBe
    clear hBe
    have ht' : ∀ w, Calls Tryd.prog 46 #[.string s, .string ⟨#[32, 10]⟩] w fun e w' => e = .returned (.string s) ∧ Grew w w' := fun w => by
      refine (ht w).mono ?_
      rintro e w' ⟨rfl, hg⟩
      refine ⟨?_, hg⟩
      rw [show (⟨#[32, 10]⟩ : ByteArray).data.toList = [32, 10] from rfl, h2]
    have HT := Lib.hid ht'
    clear ht ht' h2 ha hsd h0 h1
    have hs : s.size ≤ 4096 := by omega
    go_enter Tryd.func22, Tryd.ntmps22
    go_wp2_with (first | (go_at_call 46; refine (HT.out _).mono ?_; rintro e w1 ⟨rfl, hg⟩))
    go_loop [3, 19] (fun _ i => ∃ k : Nat, k ≤ s.size ∧ i = .int .i64 k ∧ Aside (∀ j (hj : j < s.size), j < k → okB s[j] = true)) (fun _ i => s.size - (intOf i).toNat)
    case atStart => exact ⟨0, Nat.zero_le _, rfl, fun j hj h => absurd h (Nat.not_lt_zero _)⟩
    case round =>
      obtain ⟨k, hk, rfl, M⟩ := hrel
      by_cases hlt : k < s.size
      · have hok := okB_int s[k]
        cases hq : okB s[k] with
        | true =>
          have Hq : Aside (okB s[k] = true) := hq
          rw [hq] at hok
          have hok' := hok.1 rfl
          clear hok hq
          by_cases hx : (s[k].toNat : Int) = 10
          · have hcb : ((s[k].toNat : Int) != 10) = false := by simpa using hx
            clear hx hok'
            go_wp2
            go_round
            case rel =>
              refine ⟨k + 1, by omega, by go_num, fun j hj h => ?_⟩
              by_cases e : j = k
              · subst e; exact Hq.out
              · exact M.out j hj (by omega)
            case measure => simp [intOf]; omega
          · have hcb : ((s[k].toNat : Int) != 10) = true := by simpa using hx
            have hc1 : 32 ≤ (s[k].toNat : Int) := by omega
            have hc2 : (s[k].toNat : Int) ≤ 126 := by omega
            clear hx hok'
            go_wp2
            go_round
            case rel =>
              refine ⟨k + 1, by omega, by go_num, fun j hj h => ?_⟩
              by_cases e : j = k
              · subst e; exact Hq.out
              · exact M.out j hj (by omega)
            case measure => simp [intOf]; omega
        | false =>
          have Hb := Lib.hid (HB.out.symm.trans (all_bad okB s k hlt hq))
          have hn : ¬ ((s[k].toNat : Int) = 10 ∨ 32 ≤ (s[k].toNat : Int) ∧ (s[k].toNat : Int) ≤ 126) := fun h => by rw [hok.2 h] at hq; cases hq
          have hcb : ((s[k].toNat : Int) != 10) = true := by rw [bne_iff_ne]; omega
          by_cases h32 : (s[k].toNat : Int) < 32
          · clear hok hn hq
            go_wp2
            go_ret
            exact ⟨ret_bool Hb.out.symm, hg⟩
          · have h126 : (126 : Int) < (s[k].toNat : Int) := by omega
            clear hok hn hq
            go_wp2
            go_ret
            exact ⟨ret_bool Hb.out.symm, hg⟩
      · have Ha := Lib.hid (HB.out.symm.trans (all_take okB s (fun j hj => M.out j hj (by omega))))
        go_wp2
        go_ret
        exact ⟨ret_bool Ha.out.symm, hg⟩
  · rw [text_trim _ h2]
    have hne : (s.toList == Lib.trimS s.data.toList [32, 10]) = false := by rw [toList_data, beq_eq_false_iff_ne]; exact fun e => h2 e.symm
    rw [show (⟨#[32, 10]⟩ : ByteArray).data.toList = [32, 10] from rfl] at ht
    generalize Lib.trimS s.data.toList [32, 10] = T at ht hne
    have HT := Lib.hid ht
    clear ht h2 hsd h0 h1
    go_enter Tryd.func22, Tryd.ntmps22
    go_wp2_with (first | (go_at_call 46; refine (HT.out _).mono ?_; rintro e w1 ⟨rfl, hg⟩))
    go_ret
    exact ⟨rfl, hg⟩

theorem isLow_int (b : UInt8) : isLow b = true ↔ 97 ≤ (b.toNat : Int) ∧ (b.toNat : Int) ≤ 122 := by
  simp only [isLow, Bool.and_eq_true, decide_eq_true_iff, UInt8.le_iff_toNat_le]
  have h1 : (97 : UInt8).toNat = 97 := rfl
  have h2 : (122 : UInt8).toNat = 122 := rfl
  omega
theorem two_bytes (s : ByteArray) (h : s.size = 2) : s.data.toList = [s[0], s[1]] := by
  obtain ⟨⟨l⟩⟩ := s
  match l, h with
  | [a, b], _ => rfl
set_option maxHeartbeats 1000000 in
theorem isLanguage_any (s : ByteArray) (w : World) : Calls Tryd.prog 44 #[.string s] w fun e w' => e = .returned (.bool (isLangF s.data.toList)) ∧ w = w' := by
  by_cases h : s.size = 2
  · have hb : ((s.size : Int) == 2) = true := by simp; omega
    have hz : 1 < s.size := by omega
    have hz0 : 0 < s.size := by omega
    have e : isLangF s.data.toList = decide (97 ≤ ((s[0]'hz0).toNat : Int) ∧ ((s[0]'hz0).toNat : Int) ≤ 122 ∧ 97 ≤ ((s[1]'hz).toNat : Int) ∧ ((s[1]'hz).toNat : Int) ≤ 122) := by
      rw [two_bytes s h, lang_two, Bool.eq_iff_iff, decide_eq_true_iff, Bool.and_eq_true, isLow_int, isLow_int]
      omega
    clear h
    generalize isLangF s.data.toList = B at e ⊢
    have He := Lib.hid e
    clear e
    go_enter Tryd.func44, Tryd.ntmps44
    go_wp2
    all_goals
      go_ret
      exact ⟨ret_bool (by rw [He.out]; first | (symm; rw [decide_eq_true_iff]; omega) | (symm; rw [decide_eq_false_iff_not]; omega) | exact decide_eq_decide.2 (by omega)), rfl⟩
  · rw [lang_len _ (by rw [size_data]; exact h)]
    have hb : ((s.size : Int) == 2) = false := by simp; omega
    go_enter Tryd.func44, Tryd.ntmps44
    go_wp2
    go_ret
    exact ⟨rfl, rfl⟩

set_option maxHeartbeats 2000000 in
theorem refIsText_any (s : ByteArray) (w : World) : Calls Tryd.prog 23 #[.string s] w fun e w' => e = .returned (.bool (isTextF s.data.toList)) ∧ Grew w w' := by
  have hsd := size_data s
  by_cases h0 : s.size < 1
  · rw [text_len _ (by omega)]
    have h0' : (s.size : Int) < 1 := by omega
    clear hsd
    go_enter Tryd.func23, Tryd.ntmps23
    go_wp2
    go_ret
    exact ⟨rfl, Grew.refl w⟩
  have h0' : ¬ (s.size : Int) < 1 := by omega
  by_cases h1 : 4096 < s.size
  · rw [text_len _ (by omega)]
    have h1' : (4096 : Int) < (s.size : Int) := by omega
    clear hsd
    go_enter Tryd.func23, Tryd.ntmps23
    go_wp2
    go_ret
    exact ⟨rfl, Grew.refl w⟩
  have h1' : ¬ (4096 : Int) < (s.size : Int) := by omega
  generalize hBe : isTextF s.data.toList = B
  have HB := Lib.hid hBe
  clear hBe
  have hs : s.size ≤ 4096 := by omega
  have hs1 : 1 ≤ s.size := by omega
  clear h0 h1 hsd
  go_enter Tryd.func23, Tryd.ntmps23
  go_wp2
  go_loop [3] (fun i => ∃ k : Nat, k ≤ s.size ∧ i = .int .i64 k ∧ Aside (∀ j (hj : j < s.size), j < k → okB s[j] = true)) (fun i => s.size - (intOf i).toNat)
  case atStart => exact ⟨0, Nat.zero_le _, rfl, fun j hj h => absurd h (Nat.not_lt_zero _)⟩
  case round =>
    obtain ⟨k, hk, rfl, M⟩ := hrel
    by_cases hlt : k < s.size
    · have hok := okB_int s[k]
      cases hq : okB s[k] with
      | true =>
        have Hq : Aside (okB s[k] = true) := hq
        rw [hq] at hok
        have hok' := hok.1 rfl
        clear hok hq
        by_cases hx : (s[k].toNat : Int) = 10
        · have hcb : ((s[k].toNat : Int) != 10) = false := by simpa using hx
          clear hx hok'
          go_wp2
          go_round
          case rel =>
            refine ⟨k + 1, by omega, by go_num, fun j hj h => ?_⟩
            by_cases e : j = k
            · subst e; exact Hq.out
            · exact M.out j hj (by omega)
          case measure => simp [intOf]; omega
        · have hcb : ((s[k].toNat : Int) != 10) = true := by simpa using hx
          have hc1 : 32 ≤ (s[k].toNat : Int) := by omega
          have hc2 : (s[k].toNat : Int) ≤ 126 := by omega
          clear hx hok'
          go_wp2
          all_goals first | (exfalso; omega) | skip
          go_round
          case rel =>
            refine ⟨k + 1, by omega, by go_num, fun j hj h => ?_⟩
            by_cases e : j = k
            · subst e; exact Hq.out
            · exact M.out j hj (by omega)
          case measure => simp [intOf]; omega
      | false =>
        have Hb := Lib.hid (HB.out.symm.trans (text_bad _ (all_bad okB s k hlt hq)))
        have hn : ¬ ((s[k].toNat : Int) = 10 ∨ 32 ≤ (s[k].toNat : Int) ∧ (s[k].toNat : Int) ≤ 126) := fun h => by rw [hok.2 h] at hq; cases hq
        have hcb : ((s[k].toNat : Int) != 10) = true := by rw [bne_iff_ne]; omega
        by_cases h32 : (s[k].toNat : Int) < 32
        · clear hok hn hq
          go_wp2
          go_ret
          exact ⟨ret_bool Hb.out.symm, Grew.refl w⟩
        · have h126 : (126 : Int) < (s[k].toNat : Int) := by omega
          clear hok hn hq
          go_wp2
          go_ret
          exact ⟨ret_bool Hb.out.symm, Grew.refl w⟩
    · have hz0 : 0 < s.size := by omega
      have hz1 : s.size - 1 < s.size := by omega
      have hall := all_take okB s (fun j hj => M.out j hj (by omega))
      have hh : s.data.toList.head? = some (s[0]'hz0) := by
        rw [List.head?_eq_getElem?, List.getElem?_eq_getElem (by rw [size_data]; exact hz0)]; rfl
      have hla : s.data.toList.getLast? = some (s[s.size - 1]'hz1) := by
        rw [List.getLast?_eq_getElem?, List.getElem?_eq_getElem (by rw [size_data]; exact hz1)]
        simp only [size_data]
        rfl
      have e := text_ref s.data.toList (by rw [size_data]; exact hs1) (by rw [size_data]; exact hs) _ _ hh hla hall
      rw [HB.out] at e
      have e32 : ∀ b : UInt8, (b == 32) = ((b.toNat : Int) == 32) := fun b => by
        rw [Bool.eq_iff_iff, beq_iff_eq, beq_iff_eq, ← UInt8.toNat_inj]
        have h2 : (32 : UInt8).toNat = 32 := rfl
        omega
      have e10 : ∀ b : UInt8, (b == 10) = ((b.toNat : Int) == 10) := fun b => by
        rw [Bool.eq_iff_iff, beq_iff_eq, beq_iff_eq, ← UInt8.toNat_inj]
        have h2 : (10 : UInt8).toNat = 10 := rfl
        omega
      rw [e32, e32, e10, e10] at e
      have He := Lib.hid e
      clear e e32 e10 hall hh hla
      have hi1 : (0 : Int) ≤ (s.size : Int) - 1 := by omega
      have hi2 : (s.size : Int) - 1 < (s.size : Int) := by omega
      go_wp2
      go_quiet (fail)
      go_wp2
      all_goals
        go_ret
        exact ⟨ret_bool (by rw [He.out]; first | (simp_all; done) | (simp_all [bne]; done)), (Grew.refl w).drewN _⟩
end Go.Proofs.YtiikniopjcnphaaDoor
