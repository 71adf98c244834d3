/- Lemmas on what the functions of the program and of the library compute: RA1, RE1. The conditions stand at each. -/
import Derived.Test.YtafncfomiolmgaaGreatDoorQ2
import Derived.Test.YtafncfomiolmgaaGreatDoorQ4
/- The reference's small functions on names and spans, walked. No condition. -/
namespace Go.Proofs.YtafncfomiolmgaaGreatDoor
open Go.RowKit

theorem occ2 (l : List UInt8) (j : Nat) : Lib.occAt l [32, 32] j = true ↔ l[j]? = some 32 ∧ l[j + 1]? = some 32 := by
  unfold Lib.occAt
  cases h : l.drop j with
  | nil =>
    have h1 : l[j]? = none := by rw [List.getElem?_eq_none_iff]; have := congrArg List.length h; simp at this; omega
    simp [h1]
  | cons a t =>
    have h1 : l[j]? = some a := by have := congrArg (·[0]?) h; simpa using this
    have h2 : l[j + 1]? = t[0]? := by have := congrArg (·[1]?) h; simpa using this
    rw [h1, h2]
    cases t with
    | nil => simp [List.isPrefixOf]
    | cons b u =>
      simp only [List.isPrefixOf, Bool.and_true, Bool.and_eq_true, beq_iff_eq, List.getElem?_cons_zero, Option.some.injEq]
      exact ⟨fun ⟨x, y⟩ => ⟨x.symm, y.symm⟩, fun ⟨x, y⟩ => ⟨x.symm, y.symm⟩⟩
def okB (l : List UInt8) (i : Nat) : Prop := ∀ c, l[i]? = some c → 32 ≤ c.toNat ∧ c.toNat ≤ 126 ∧ ¬ (0 < i ∧ c = 32 ∧ l[i - 1]? = some 32)
theorem name_rest (l : List UInt8) : (!Lib.contains l [32, 32] && allIn 32 126 l) = true ↔ ∀ i, i < l.length → okB l i := by
  unfold Lib.contains allIn
  rw [Bool.and_eq_true, Bool.not_eq_true', decide_eq_false_iff_not, List.all_eq_true]
  constructor
  · rintro ⟨h1, h2⟩ i hi c hc
    have hm := h2 c (List.mem_of_getElem? hc)
    rw [Bool.and_eq_true, decide_eq_true_eq, decide_eq_true_eq] at hm
    refine ⟨hm.1, hm.2, ?_⟩
    rintro ⟨h3, rfl, h5⟩
    rcases Lib.index_spec l [32, 32] with ⟨_, h6⟩ | ⟨j, h6, _⟩
    · have := h6 (i - 1) (by omega)
      rw [(occ2 l (i - 1)).2 ⟨h5, by rw [Nat.sub_add_cancel h3]; exact hc⟩] at this
      cases this
    · rw [h6] at h1; omega
  · intro h
    refine ⟨?_, fun c hc => ?_⟩
    · rcases Lib.index_spec l [32, 32] with ⟨h6, _⟩ | ⟨j, h6, h7, h8, _⟩
      · omega
      · obtain ⟨h9, h10⟩ := (occ2 l j).1 h8
        have hj : j + 1 < l.length := (List.getElem?_eq_some_iff.1 h10).1
        exact absurd ⟨by omega, rfl, by simpa using h9⟩ (h (j + 1) hj 32 h10).2.2
    · obtain ⟨i, hi, rfl⟩ := List.mem_iff_getElem.1 hc
      have := h i hi l[i] (List.getElem?_eq_getElem hi)
      rw [Bool.and_eq_true, decide_eq_true_eq, decide_eq_true_eq]
      exact ⟨this.1, this.2.1⟩
theorem data_at (s : ByteArray) (k : Nat) (h : k < s.size) : s.data.toList[k]? = some s[k] := by
  rw [List.getElem?_eq_getElem (by rw [size_data]; exact h)]; rfl
theorem eq32 (c : UInt8) : c = 32 ↔ (c.toNat : Int) = 32 := by
  rw [← UInt8.toNat_inj]
  have h2 : (32 : UInt8).toNat = 32 := rfl
  omega
set_option maxHeartbeats 2000000 in
theorem refName (s : ByteArray) (w : World) : Calls Tryz.prog 44 #[.string s] w fun e w' => e = .returned (.bool (nameF s.data.toList)) ∧ Grew w w' := by
  have hsd := size_data s
  by_cases h0 : s.size < 1
  · have hN : nameF s.data.toList = false := by simp only [nameF, hsd]; rw [decide_eq_false (by omega)]; rfl
    rw [hN]
    have h0' : (s.size : Int) < 1 := by omega
    clear hsd hN
    go_enter Tryz.func44, Tryz.ntmps44
    go_wp2
    go_ret
    exact ⟨rfl, Grew.refl w⟩
  have h0' : decide ((s.size : Int) < 1) = false := by simp; omega
  by_cases h1 : 64 < s.size
  · have hN : nameF s.data.toList = false := by simp only [nameF, hsd]; rw [decide_eq_false (by omega)]; rfl
    rw [hN]
    have h1' : (64 : Int) < (s.size : Int) := by omega
    clear hsd hN
    go_enter Tryz.func44, Tryz.ntmps44
    go_wp2
    go_ret
    exact ⟨rfl, Grew.refl w⟩
  have h1' : decide ((64 : Int) < (s.size : Int)) = false := by simp; omega
  have hz0 : 0 < s.size := by omega
  have hs64 : s.size ≤ 64 := by omega
  have hz1 : s.size - 1 < s.size := by omega
  have hN : nameF s.data.toList = (!((s[0].toNat : Int) == 32) && (!((s[s.size - 1].toNat : Int) == 32) && (!Lib.contains s.data.toList [32, 32] && allIn 32 126 s.data.toList))) := by
    simp only [nameF, hsd, head_at s hz0, last_at s hz1, is32]
    rw [decide_eq_true (by omega)]
    rfl
  rw [hN]
  have hi1 : (0 : Int) ≤ (s.size : Int) - 1 := by omega
  have hi2 : (s.size : Int) - 1 < (s.size : Int) := by omega
  have hrest := name_rest s.data.toList
  rw [hsd] at hrest
  generalize (!Lib.contains s.data.toList [32, 32] && allIn 32 126 s.data.toList) = Q at hrest
  have HRE := Lib.hid hrest
  clear hsd hN h0 h1 hrest
  cases a1 : ((s[0].toNat : Int) == 32) with
  | true =>
    go_enter Tryz.func44, Tryz.ntmps44
    go_wp2
    go_ret
    exact ⟨rfl, Grew.refl w⟩
  | false =>
  cases a2 : ((s[s.size - 1].toNat : Int) == 32) with
  | true =>
    go_enter Tryz.func44, Tryz.ntmps44
    go_wp2
    go_ret
    exact ⟨rfl, Grew.refl w⟩
  | false =>
  go_enter Tryz.func44, Tryz.ntmps44
  go_wp2
  go_loop [3] (fun i => ∃ k : Nat, k ≤ s.size ∧ i = .int .i64 k ∧ Aside (∀ j, j < k → okB s.data.toList j)) (fun i => s.size - (intOf i).toNat)
  case atStart => exact ⟨0, by omega, rfl, (show Aside _ from fun j h => absurd h (Nat.not_lt_zero _))⟩
  case round =>
    obtain ⟨k, hk, rfl, M⟩ := hrel
    by_cases hlt : k < s.size
    case neg =>
      have hltz : ¬ (k : Int) < (s.size : Int) := by omega
      have hQ : Q = true := HRE.out.2 (fun i hi => M.out i (by omega))
      subst hQ
      go_wp2
      go_ret
      exact ⟨rfl, Grew.refl w⟩
    have hltz : (k : Int) < (s.size : Int) := by omega
    have h0z : (0 : Int) ≤ (k : Int) := by omega
    have HBAD : RowKit.Hid (¬ okB s.data.toList k → Q = false) := fun h => by
      rw [← Bool.not_eq_true, HRE.out]
      exact fun h2 => h (h2 k hlt)
    have HS : RowKit.Hid (okB s.data.toList k → ∀ j, j < k + 1 → okB s.data.toList j) := fun h j hj => by
      by_cases e : j = k
      · subst e; exact h
      · exact M.out j (by omega)
    have hck := data_at s k hlt
    have HOK : RowKit.Hid (okB s.data.toList k ↔ 32 ≤ (s[k].toNat : Int) ∧ (s[k].toNat : Int) ≤ 126 ∧ ¬ (0 < k ∧ (s[k].toNat : Int) = 32 ∧ ((s[k - 1]'(by omega)).toNat : Int) = 32)) := by
      have hp := data_at s (k - 1) (by omega)
      constructor
      · intro h
        have := h s[k] hck
        refine ⟨by omega, by omega, ?_⟩
        rintro ⟨h1, h2, h3⟩
        exact this.2.2 ⟨h1, (eq32 _).2 h2, by rw [hp]; congr 1; exact (eq32 _).2 h3⟩
      · rintro ⟨h1, h2, h3⟩ c hc
        rw [hck] at hc
        obtain rfl := Option.some.inj hc
        refine ⟨by omega, by omega, ?_⟩
        rintro ⟨h4, h5, h6⟩
        rw [hp] at h6
        exact h3 ⟨h4, (eq32 _).1 h5, (eq32 _).1 (Option.some.inj h6)⟩
    clear hck
    cases b1 : decide ((s[k].toNat : Int) < 32) with
    | true =>
      have hQ := HBAD.out (fun h => by have := (HOK.out.1 h).1; simp at b1; omega)
      subst hQ
      go_wp2
      go_ret
      exact ⟨rfl, Grew.refl w⟩
    | false =>
    cases b2 : decide ((126 : Int) < (s[k].toNat : Int)) with
    | true =>
      have hQ := HBAD.out (fun h => by have := (HOK.out.1 h).2.1; simp at b2; omega)
      subst hQ
      go_wp2
      go_ret
      exact ⟨rfl, Grew.refl w⟩
    | false =>
    rcases Nat.eq_zero_or_pos k with hk0 | hkpos
    · subst hk0
      have Hy := Lib.hid (HS.out (HOK.out.2 ⟨by simp at b1; omega, by simp at b2; omega, fun h => absurd h.1 (Nat.lt_irrefl _)⟩))
      clear HBAD HS HOK M
      go_wp2
      go_round
      case rel => exact ⟨1, by omega, by go_num, (show Aside _ from Hy.out)⟩
      case measure => simp [intOf]; omega
    have hkz : (0 : Int) < (k : Int) := by omega
    have hki : (0 : Int) ≤ (k : Int) - 1 := by omega
    have hki2 : (k : Int) - 1 < (s.size : Int) := by omega
    have hki3 : (1 : Int) ≤ (k : Int) := by omega
    have hkt : ((k : Int) - 1).toNat = k - 1 := by omega
    have hk1 : k - 1 < s.size := by omega
    cases b3 : ((s[k].toNat : Int) == 32) with
    | false =>
      have Hy := Lib.hid (HS.out (HOK.out.2 ⟨by simp at b1; omega, by simp at b2; omega, fun h => by have := h.2.1; simp at b3; omega⟩))
      clear HBAD HS HOK M
      go_wp2
      go_round
      case rel => exact ⟨k + 1, by omega, by go_num, (show Aside _ from Hy.out)⟩
      case measure => simp [intOf]; omega
    | true =>
    cases b4 : (((s[k - 1]'(by omega)).toNat : Int) == 32) with
    | false =>
      have Hy := Lib.hid (HS.out (HOK.out.2 ⟨by simp at b1; omega, by simp at b2; omega, fun h => by have := h.2.2; simp at b4; omega⟩))
      clear HBAD HS HOK M
      go_wp2
      go_round
      case rel => exact ⟨k + 1, by omega, by go_num, (show Aside _ from Hy.out)⟩
      case measure => simp [intOf]; omega
    | true =>
      have hQ := HBAD.out (fun h => (HOK.out.1 h).2.2 ⟨hkpos, by simpa using b3, by simpa using b4⟩)
      subst hQ
      clear HBAD HS HOK M
      go_wp2
      go_ret
      exact ⟨rfl, Grew.refl w⟩
end Go.Proofs.YtafncfomiolmgaaGreatDoor

/- The reference's small functions on trees, walked: marks, levels, Find. No condition. -/
namespace Go.Proofs.YtafncfomiolmgaaGreatDoor
open Go.RowKit

def okM (l : List UInt8) (i : Nat) : Prop := ∀ c, l[i]? = some c → 33 ≤ c.toNat ∧ c.toNat ≤ 126
theorem mark_rest (l : List UInt8) : allIn 33 126 l = true ↔ ∀ i, i < l.length → okM l i := by
  unfold allIn
  rw [List.all_eq_true]
  constructor
  · intro h i hi c hc
    have := h c (List.mem_of_getElem? hc)
    rw [Bool.and_eq_true, decide_eq_true_eq, decide_eq_true_eq] at this
    exact this
  · intro h c hc
    obtain ⟨i, hi, rfl⟩ := List.mem_iff_getElem.1 hc
    have := h i hi l[i] (List.getElem?_eq_getElem hi)
    rw [Bool.and_eq_true, decide_eq_true_eq, decide_eq_true_eq]
    exact this
set_option maxHeartbeats 2000000 in
theorem refMark (s : ByteArray) (w : World) (hb : s.size ≤ 9223372036854775807) : Calls Tryz.prog 45 #[.string s] w fun e w' => e = .returned (.bool (markF s.data.toList)) ∧ Grew w w' := by
  have hsd := size_data s
  have hN : markF s.data.toList = (decide (1 ≤ (s.size : Int)) && (decide ((s.size : Int) ≤ 64) && allIn 33 126 s.data.toList)) := by
    unfold markF
    rw [hsd, ← Bool.and_assoc]
    congr 1
    rw [Bool.eq_iff_iff]
    simp
    omega
  rw [hN]
  have hrest := mark_rest s.data.toList
  rw [hsd] at hrest
  generalize allIn 33 126 s.data.toList = Q at hrest ⊢
  have HRE := Lib.hid hrest
  clear hsd hN hrest
  go_enter Tryz.func45, Tryz.ntmps45
  go_wp2
  go_loop [3] (fun i => ∃ k : Nat, k ≤ s.size ∧ i = .int .i64 k ∧ Aside (∀ j, j < k → okM s.data.toList j)) (fun i => s.size - (intOf i).toNat)
  case atStart => exact ⟨0, by omega, rfl, (show Aside _ from fun j h => absurd h (Nat.not_lt_zero _))⟩
  case round =>
    obtain ⟨k, hk, rfl, M⟩ := hrel
    by_cases hlt : k < s.size
    case neg =>
      have hltz : ¬ (k : Int) < (s.size : Int) := by omega
      have hQ : Q = true := HRE.out.2 (fun i hi => M.out i (by omega))
      subst hQ
      cases a1 : decide (1 ≤ (s.size : Int)) <;> cases a2 : decide ((s.size : Int) ≤ 64)
      all_goals
        go_wp2
        go_ret
        exact ⟨rfl, Grew.refl w⟩
    have hltz : (k : Int) < (s.size : Int) := by omega
    have h0z : (0 : Int) ≤ (k : Int) := by omega
    have hck := data_at s k hlt
    have HBAD : RowKit.Hid (¬ okM s.data.toList k → Q = false) := fun h => by
      rw [← Bool.not_eq_true, HRE.out]
      exact fun h2 => h (h2 k hlt)
    have HS : RowKit.Hid (okM s.data.toList k → ∀ j, j < k + 1 → okM s.data.toList j) := fun h j hj => by
      by_cases e : j = k
      · subst e; exact h
      · exact M.out j (by omega)
    have HOK : RowKit.Hid (okM s.data.toList k ↔ 33 ≤ (s[k].toNat : Int) ∧ (s[k].toNat : Int) ≤ 126) := by
      constructor
      · intro h
        have := h s[k] hck
        omega
      · intro h c hc
        rw [hck] at hc
        obtain rfl := Option.some.inj hc
        omega
    clear hck
    cases b1 : decide ((s[k].toNat : Int) < 33) with
    | true =>
      have hQ := HBAD.out (fun h => by have := (HOK.out.1 h).1; simp at b1; omega)
      subst hQ
      go_wp2
      go_ret
      exact ⟨by simp, Grew.refl w⟩
    | false =>
    cases b2 : decide (126 < (s[k].toNat : Int)) with
    | true =>
      have hQ := HBAD.out (fun h => by have := (HOK.out.1 h).2; simp at b2; omega)
      subst hQ
      go_wp2
      go_ret
      exact ⟨by simp, Grew.refl w⟩
    | false =>
    have Hy := Lib.hid (HS.out (HOK.out.2 (by simp at b1 b2; omega)))
    clear HBAD HS HOK M
    go_wp2
    go_round
    case rel => exact ⟨k + 1, by omega, by go_num, (show Aside _ from Hy.out)⟩
    case measure => simp [intOf]; omega
set_option maxHeartbeats 2000000 in
theorem refLevel (n : Int) (w : World) : Calls Tryz.prog 43 #[.int .i64 n] w fun e w' => e = .returned (.bool (within n 1 4)) ∧ w = w' := by
  unfold within
  cases a1 : decide (1 ≤ n) <;> cases a2 : decide (n ≤ 4)
  all_goals
    go_enter Tryz.func43, Tryz.ntmps43
    go_wp2
    go_ret
    exact ⟨rfl, rfl⟩
end Go.Proofs.YtafncfomiolmgaaGreatDoor
