/- The statement on words and numbers of elements, walked: it returns true at every input and changes no block that lay before. No condition. -/
import Derived.Test.YtiikniopjcnphaaDoorE9
namespace Go.Proofs.YtiikniopjcnphaaDoor
open Go.RowKit

def someF (n : Int) : Nat → Bool
  | 0 => false
  | k + 1 => someF n k || allowedF n k
theorem someF_one (n : Int) : someF n 1 = false := by simp [someF, allowedF]
theorem someF_end (n : Int) : someF n 5 = isEl n := by
  cases h : isEl n with
  | true => rcases isEl_cases h with rfl | rfl | rfl | rfl | rfl | rfl | rfl | rfl <;> decide +kernel
  | false => simp [someF, allowed_not n _ (Or.inl h)]
theorem word_empty (n : Int) (h : isEl n = false) : (kindOf n).word = ⟨#[]⟩ := by simp [kindOf, h, kind0]
theorem word_some (n : Int) (h : isEl n = true) : ((kindOf n).word.toList == []) = false := by
  rcases isEl_cases h with rfl | rfl | rfl | rfl | rfl | rfl | rfl | rfl <;> simp only [toList_data] <;> decide +kernel
theorem word_back (n : Int) (h : isEl n = true) : numberF (kindOf n).word = n := by
  rcases isEl_cases h with rfl | rfl | rfl | rfl | rfl | rfl | rfl | rfl <;> simp only [numberF, toList_data] <;> decide +kernel
theorem inh_fonds (n : Int) (h : (kindOf n).inh = true) : allowedF n 1 = true := by
  cases he : isEl n with
  | true => rcases isEl_cases he with rfl | rfl | rfl | rfl | rfl | rfl | rfl | rfl <;> revert h <;> decide +kernel
  | false => simp [kindOf, he, kind0] at h
theorem number_back (word : ByteArray) (h : numberF word ≠ 0) : (kindOf (numberF word)).word.toList = word.toList := by
  by_cases ha : kindTab.any (fun k : Kind => k.word.toList == word.toList) = true
  · obtain ⟨m, hm, hp, hf⟩ := idxP_find _ _ ha
    have hi := idxP_hit (fun k : Kind => k.word.toList == word.toList) kindTab m hm hp hf
    have hn : numberF word = (m : Int) := by rw [numberF, hi]; omega
    rw [hn] at h ⊢
    have h9 : m < 9 := hm
    have he : isEl (m : Int) = true := by simp [isEl]; omega
    have : kindOf (m : Int) = kindTab[m] := by
      rw [kindOf, if_pos he, Int.toNat_natCast]
      rw [List.getD_eq_getElem?_getD, List.getElem?_eq_getElem hm]
      rfl
    rw [this]
    exact eq_of_beq hp
  · have hi := idxP_miss (fun k : Kind => k.word.toList == word.toList) kindTab (fun i hi => by
      simp only [Bool.not_eq_true, List.any_eq_false] at ha
      simpa using ha _ (List.getElem_mem hi))
    exact absurd (by rw [numberF, hi]; rfl) h

set_option maxRecDepth 100000 in
theorem words_long (n : Int) (word : ByteArray) (w : World) (h : 300 < word.size) : Calls Tryd.prog 5 #[.int .i64 n, .string word] w fun e w' => e = .returned (.bool true) ∧ Grew w w' := by
  go_enter Tryd.func5, Tryd.ntmps5
  go_wp2_with fail
  refine (awake_any w).mono ?_
  rintro e w1 ⟨rfl, g1⟩
  dsimp only
  have hs : (decide ((300 : Int) < (word.size : Int))) = true := by simp; omega
  go_wp2_with fail
  refine (awake_any w1).mono ?_
  rintro e w2 ⟨rfl, g2⟩
  dsimp only
  go_wp2_with fail
  all_goals go_ret
  all_goals exact ⟨rfl, g1.trans g2⟩

theorem words_short (n : Int) (word : ByteArray) (w : World) (h : ¬ 300 < word.size) (he : isEl n = true) : Calls Tryd.prog 5 #[.int .i64 n, .string word] w fun e w' => e = .returned (.bool true) ∧ Grew w w' := by
  have hs : (decide ((300 : Int) < (word.size : Int))) = false := by simp; omega
  obtain ⟨h1, h8⟩ := isEl_t he
  have hd1 : decide (n < 1) = false := by simp; omega
  have hd8 : decide ((8 : Int) < n) = false := by simp; omega
  have kw := Lib.hid (word_any n)
  have ks := word_some n he
  have kn := Lib.hid (number_any (kindOf n).word)
  rw [word_back n he] at kn
  have kend := Lib.hid (someF_end n)
  rw [he] at kend
  have kin := Lib.hid (inherited_any n)
  have kfo := Lib.hid (inh_fonds n)
  generalize (kindOf n).word = K at kw ks kn
  generalize (kindOf n).inh = I at kin kfo
  have km := Lib.hid (number_any word)
  have kb := Lib.hid (number_back word)
  generalize numberF word = m at km kb
  have kmw := Lib.hid (word_any m)
  generalize (kindOf m).word = M at kmw kb
  go_enter Tryd.func5, Tryd.ntmps5
  go_wp2_with fail
  refine (awake_any w).mono ?_
  rintro e w1 ⟨rfl, g1⟩
  dsimp only
  go_wp2_with fail
  refine (kw.out w1).mono ?_
  rintro e w2 ⟨rfl, g2⟩
  dsimp only
  go_wp2_with fail
  refine (kn.out w2).mono ?_
  rintro e w3 ⟨rfl, g3⟩
  dsimp only
  go_wp2_with fail
  refine (km.out w3).mono ?_
  rintro e w4 ⟨rfl, g4⟩
  dsimp only
  have gg4 : Grew w w4 := ((g1.trans g2).trans g3).trans g4
  clear g1 g2 g3 g4
  by_cases hm : m = 0
  · subst hm
    have gg5 := gg4
    go_wp2_with fail
    go_loopg [7, 8] 5 (fun gg s7 s8 wr => ∃ k : Nat, 1 ≤ k ∧ k ≤ 5 ∧ 5 - k ≤ gg ∧ s7 = .bool (someF n k) ∧ s8 = .int .i64 k ∧ Aside (Grew w wr))
    case atStart => exact ⟨1, by omega, by omega, by omega, by rw [someF_one], rfl, gg5⟩
    case round =>
      obtain ⟨k, hk1, hk5, hgk, rfl, rfl, BW⟩ := hrel
      by_cases hk : k < 5
      case neg =>
        obtain rfl : k = 5 := by omega
        rw [kend.out]
        go_wp2_with fail
        refine (kin.out wr).mono ?_
        rintro e w6 ⟨rfl, g6⟩
        dsimp only
        cases hI : I with
        | false =>
          go_wp2_with fail
          go_ret
          exact ⟨rfl, BW.out.trans g6⟩
        | true =>
          have ka := allowed_any n 1 w6
          rw [kfo.out hI] at ka
          go_wp2_with fail
          refine ka.mono ?_
          rintro e w7 ⟨rfl, g7⟩
          dsimp only
          go_wp2_with fail
          go_ret
          exact ⟨rfl, (BW.out.trans g6).trans g7⟩
      have hk4 : (k : Int) ≤ 4 := by omega
      have hsn : someF n (k + 1) = (someF n k || allowedF n k) := rfl
      cases hS : someF n k with
      | true =>
        rw [hS] at hsn
        have HSN := Lib.hid hsn
        clear hsn hS
        go_wp2_with fail
        go_roundg (5 - (k + 1))
        case measure => omega
        case rel => exact ⟨k + 1, by omega, by omega, by omega, by rw [HSN.out]; rfl, by go_num, BW.out⟩
      | false =>
        rw [hS] at hsn
        have HSN := Lib.hid hsn
        clear hsn hS
        go_wp2_with fail
        refine (allowed_any n k wr).mono ?_
        rintro e w6 ⟨rfl, g6⟩
        dsimp only
        go_wp2_with fail
        go_roundg (5 - (k + 1))
        case measure => omega
        case rel => exact ⟨k + 1, by omega, by omega, by omega, by rw [HSN.out]; rfl, by go_num, BW.out.trans g6⟩
  · have hm' : (m != 0) = true := by simpa using hm
    have hM : (M.toList == word.toList) = true := by simpa using kb.out hm
    go_wp2_with fail
    refine (kmw.out w4).mono ?_
    rintro e w5 ⟨rfl, g5⟩
    have gg5 := gg4.trans g5
    dsimp only
    go_wp2_with fail
    go_loopg [7, 8] 5 (fun gg s7 s8 wr => ∃ k : Nat, 1 ≤ k ∧ k ≤ 5 ∧ 5 - k ≤ gg ∧ s7 = .bool (someF n k) ∧ s8 = .int .i64 k ∧ Aside (Grew w wr))
    case atStart => exact ⟨1, by omega, by omega, by omega, by rw [someF_one], rfl, gg5⟩
    case round =>
      obtain ⟨k, hk1, hk5, hgk, rfl, rfl, BW⟩ := hrel
      by_cases hk : k < 5
      case neg =>
        obtain rfl : k = 5 := by omega
        rw [kend.out]
        go_wp2_with fail
        refine (kin.out wr).mono ?_
        rintro e w6 ⟨rfl, g6⟩
        dsimp only
        cases hI : I with
        | false =>
          go_wp2_with fail
          go_ret
          exact ⟨rfl, BW.out.trans g6⟩
        | true =>
          have ka := allowed_any n 1 w6
          rw [kfo.out hI] at ka
          go_wp2_with fail
          refine ka.mono ?_
          rintro e w7 ⟨rfl, g7⟩
          dsimp only
          go_wp2_with fail
          go_ret
          exact ⟨rfl, (BW.out.trans g6).trans g7⟩
      have hk4 : (k : Int) ≤ 4 := by omega
      have hsn : someF n (k + 1) = (someF n k || allowedF n k) := rfl
      cases hS : someF n k with
      | true =>
        rw [hS] at hsn
        have HSN := Lib.hid hsn
        clear hsn hS
        go_wp2_with fail
        go_roundg (5 - (k + 1))
        case measure => omega
        case rel => exact ⟨k + 1, by omega, by omega, by omega, by rw [HSN.out]; rfl, by go_num, BW.out⟩
      | false =>
        rw [hS] at hsn
        have HSN := Lib.hid hsn
        clear hsn hS
        go_wp2_with fail
        refine (allowed_any n k wr).mono ?_
        rintro e w6 ⟨rfl, g6⟩
        dsimp only
        go_wp2_with fail
        go_roundg (5 - (k + 1))
        case measure => omega
        case rel => exact ⟨k + 1, by omega, by omega, by omega, by rw [HSN.out]; rfl, by go_num, BW.out.trans g6⟩
theorem words_none (n : Int) (word : ByteArray) (w : World) (h : ¬ 300 < word.size) (he : isEl n = false) (hlow : Bool) (hd1 : decide (n < 1) = hlow) : Calls Tryd.prog 5 #[.int .i64 n, .string word] w fun e w' => e = .returned (.bool true) ∧ Grew w w' := by
  have hs : (decide ((300 : Int) < (word.size : Int))) = false := by simp; omega
  have hd8 : hlow = false → decide ((8 : Int) < n) = true := by
    intro h
    subst h
    have := isEl_f he
    simp at hd1 ⊢
    omega
  have kw := Lib.hid (word_any n)
  rw [word_empty n he] at kw
  have hi : (kindOf n).inh = false := by simp [kindOf, he, kind0]
  have kend := Lib.hid (someF_end n)
  rw [he] at kend
  have kin := Lib.hid (inherited_any n)
  rw [hi] at kin
  have km := Lib.hid (number_any word)
  have kb := Lib.hid (number_back word)
  generalize numberF word = m at km kb
  have kmw := Lib.hid (word_any m)
  generalize (kindOf m).word = M at kmw kb
  go_enter Tryd.func5, Tryd.ntmps5
  go_wp2_with fail
  refine (awake_any w).mono ?_
  rintro e w1 ⟨rfl, g1⟩
  dsimp only
  go_wp2_with fail
  refine (kw.out w1).mono ?_
  rintro e w2 ⟨rfl, g2⟩
  dsimp only
  have st : ∀ w3, Grew w2 w3 → Grew w w3 := fun w3 g => (g1.trans g2).trans g
  clear g1 g2
  cases hlow with
  | true =>
    have hd1' : n < 1 := of_decide_eq_true hd1
    go_wp2_with fail
    refine (km.out w2).mono ?_
    rintro e w4 ⟨rfl, g4⟩
    have gg4 := st _ g4
    clear st g4
    dsimp only
    by_cases hm : m = 0
    · subst hm
      have gg5 := gg4
      go_wp2_with fail
      go_loopg [7, 8] 5 (fun gg s7 s8 wr => ∃ k : Nat, 1 ≤ k ∧ k ≤ 5 ∧ 5 - k ≤ gg ∧ s7 = .bool (someF n k) ∧ s8 = .int .i64 k ∧ Aside (Grew w wr))
      case atStart => exact ⟨1, by omega, by omega, by omega, by rw [someF_one], rfl, gg5⟩
      case round =>
        obtain ⟨k, hk1, hk5, hgk, rfl, rfl, BW⟩ := hrel
        by_cases hk : k < 5
        case neg =>
          obtain rfl : k = 5 := by omega
          rw [kend.out]
          go_wp2_with fail
          refine (kin.out wr).mono ?_
          rintro e w6 ⟨rfl, g6⟩
          dsimp only
          go_wp2_with fail
          go_ret
          exact ⟨rfl, BW.out.trans g6⟩
        have hk4 : (k : Int) ≤ 4 := by omega
        have hsn : someF n (k + 1) = (someF n k || allowedF n k) := rfl
        cases hS : someF n k with
        | true =>
          rw [hS] at hsn
          have HSN := Lib.hid hsn
          clear hsn hS
          go_wp2_with fail
          go_roundg (5 - (k + 1))
          case measure => omega
          case rel => exact ⟨k + 1, by omega, by omega, by omega, by rw [HSN.out]; rfl, by go_num, BW.out⟩
        | false =>
          rw [hS] at hsn
          have HSN := Lib.hid hsn
          clear hsn hS
          go_wp2_with fail
          refine (allowed_any n k wr).mono ?_
          rintro e w6 ⟨rfl, g6⟩
          dsimp only
          go_wp2_with fail
          go_roundg (5 - (k + 1))
          case measure => omega
          case rel => exact ⟨k + 1, by omega, by omega, by omega, by rw [HSN.out]; rfl, by go_num, BW.out.trans g6⟩
    · have hm' : (m != 0) = true := by simpa using hm
      have hM : (M.toList == word.toList) = true := by simpa using kb.out hm
      go_wp2_with fail
      refine (kmw.out w4).mono ?_
      rintro e w5 ⟨rfl, g5⟩
      have gg5 := gg4.trans g5
      dsimp only
      go_wp2_with fail
      go_loopg [7, 8] 5 (fun gg s7 s8 wr => ∃ k : Nat, 1 ≤ k ∧ k ≤ 5 ∧ 5 - k ≤ gg ∧ s7 = .bool (someF n k) ∧ s8 = .int .i64 k ∧ Aside (Grew w wr))
      case atStart => exact ⟨1, by omega, by omega, by omega, by rw [someF_one], rfl, gg5⟩
      case round =>
        obtain ⟨k, hk1, hk5, hgk, rfl, rfl, BW⟩ := hrel
        by_cases hk : k < 5
        case neg =>
          obtain rfl : k = 5 := by omega
          rw [kend.out]
          go_wp2_with fail
          refine (kin.out wr).mono ?_
          rintro e w6 ⟨rfl, g6⟩
          dsimp only
          go_wp2_with fail
          go_ret
          exact ⟨rfl, BW.out.trans g6⟩
        have hk4 : (k : Int) ≤ 4 := by omega
        have hsn : someF n (k + 1) = (someF n k || allowedF n k) := rfl
        cases hS : someF n k with
        | true =>
          rw [hS] at hsn
          have HSN := Lib.hid hsn
          clear hsn hS
          go_wp2_with fail
          go_roundg (5 - (k + 1))
          case measure => omega
          case rel => exact ⟨k + 1, by omega, by omega, by omega, by rw [HSN.out]; rfl, by go_num, BW.out⟩
        | false =>
          rw [hS] at hsn
          have HSN := Lib.hid hsn
          clear hsn hS
          go_wp2_with fail
          refine (allowed_any n k wr).mono ?_
          rintro e w6 ⟨rfl, g6⟩
          dsimp only
          go_wp2_with fail
          go_roundg (5 - (k + 1))
          case measure => omega
          case rel => exact ⟨k + 1, by omega, by omega, by omega, by rw [HSN.out]; rfl, by go_num, BW.out.trans g6⟩
  | false =>
    have hd1' : ¬ n < 1 := of_decide_eq_false hd1
    have hd8' : 8 < n := of_decide_eq_true (hd8 rfl)
    go_wp2_with fail
    refine (km.out w2).mono ?_
    rintro e w4 ⟨rfl, g4⟩
    have gg4 := st _ g4
    clear st g4
    dsimp only
    by_cases hm : m = 0
    · subst hm
      have gg5 := gg4
      go_wp2_with fail
      go_loopg [7, 8] 5 (fun gg s7 s8 wr => ∃ k : Nat, 1 ≤ k ∧ k ≤ 5 ∧ 5 - k ≤ gg ∧ s7 = .bool (someF n k) ∧ s8 = .int .i64 k ∧ Aside (Grew w wr))
      case atStart => exact ⟨1, by omega, by omega, by omega, by rw [someF_one], rfl, gg5⟩
      case round =>
        obtain ⟨k, hk1, hk5, hgk, rfl, rfl, BW⟩ := hrel
        by_cases hk : k < 5
        case neg =>
          obtain rfl : k = 5 := by omega
          rw [kend.out]
          go_wp2_with fail
          refine (kin.out wr).mono ?_
          rintro e w6 ⟨rfl, g6⟩
          dsimp only
          go_wp2_with fail
          go_ret
          exact ⟨rfl, BW.out.trans g6⟩
        have hk4 : (k : Int) ≤ 4 := by omega
        have hsn : someF n (k + 1) = (someF n k || allowedF n k) := rfl
        cases hS : someF n k with
        | true =>
          rw [hS] at hsn
          have HSN := Lib.hid hsn
          clear hsn hS
          go_wp2_with fail
          go_roundg (5 - (k + 1))
          case measure => omega
          case rel => exact ⟨k + 1, by omega, by omega, by omega, by rw [HSN.out]; rfl, by go_num, BW.out⟩
        | false =>
          rw [hS] at hsn
          have HSN := Lib.hid hsn
          clear hsn hS
          go_wp2_with fail
          refine (allowed_any n k wr).mono ?_
          rintro e w6 ⟨rfl, g6⟩
          dsimp only
          go_wp2_with fail
          go_roundg (5 - (k + 1))
          case measure => omega
          case rel => exact ⟨k + 1, by omega, by omega, by omega, by rw [HSN.out]; rfl, by go_num, BW.out.trans g6⟩
    · have hm' : (m != 0) = true := by simpa using hm
      have hM : (M.toList == word.toList) = true := by simpa using kb.out hm
      go_wp2_with fail
      refine (kmw.out w4).mono ?_
      rintro e w5 ⟨rfl, g5⟩
      have gg5 := gg4.trans g5
      dsimp only
      go_wp2_with fail
      go_loopg [7, 8] 5 (fun gg s7 s8 wr => ∃ k : Nat, 1 ≤ k ∧ k ≤ 5 ∧ 5 - k ≤ gg ∧ s7 = .bool (someF n k) ∧ s8 = .int .i64 k ∧ Aside (Grew w wr))
      case atStart => exact ⟨1, by omega, by omega, by omega, by rw [someF_one], rfl, gg5⟩
      case round =>
        obtain ⟨k, hk1, hk5, hgk, rfl, rfl, BW⟩ := hrel
        by_cases hk : k < 5
        case neg =>
          obtain rfl : k = 5 := by omega
          rw [kend.out]
          go_wp2_with fail
          refine (kin.out wr).mono ?_
          rintro e w6 ⟨rfl, g6⟩
          dsimp only
          go_wp2_with fail
          go_ret
          exact ⟨rfl, BW.out.trans g6⟩
        have hk4 : (k : Int) ≤ 4 := by omega
        have hsn : someF n (k + 1) = (someF n k || allowedF n k) := rfl
        cases hS : someF n k with
        | true =>
          rw [hS] at hsn
          have HSN := Lib.hid hsn
          clear hsn hS
          go_wp2_with fail
          go_roundg (5 - (k + 1))
          case measure => omega
          case rel => exact ⟨k + 1, by omega, by omega, by omega, by rw [HSN.out]; rfl, by go_num, BW.out⟩
        | false =>
          rw [hS] at hsn
          have HSN := Lib.hid hsn
          clear hsn hS
          go_wp2_with fail
          refine (allowed_any n k wr).mono ?_
          rintro e w6 ⟨rfl, g6⟩
          dsimp only
          go_wp2_with fail
          go_roundg (5 - (k + 1))
          case measure => omega
          case rel => exact ⟨k + 1, by omega, by omega, by omega, by rw [HSN.out]; rfl, by go_num, BW.out.trans g6⟩
theorem words_all (n : Int) (word : ByteArray) (w : World) : Calls Tryd.prog 5 #[.int .i64 n, .string word] w fun e w' => e = .returned (.bool true) ∧ Grew w w' := by
  by_cases h : 300 < word.size
  · exact words_long n word w h
  · cases he : isEl n with
    | true => exact words_short n word w h he
    | false => exact words_none n word w h he _ rfl
end Go.Proofs.YtiikniopjcnphaaDoor
