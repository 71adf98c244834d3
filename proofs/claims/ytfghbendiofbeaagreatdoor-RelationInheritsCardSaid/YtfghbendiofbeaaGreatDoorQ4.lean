/- Lemmas on what the functions of the program and of the library compute: A1. The conditions stand at each. -/
import Derived.Test.YtfghbendiofbeaaGreatDoorQ2
import Derived.Test.YtfghbendiofbeaaGreatDoorQ3
import Derived.Lib.AppendIntMem
/- The small functions that several packages repeat, walked. The condition on names: the library's own variable holds a number. -/
namespace Go.Proofs.YtfghbendiofbeaaGreatDoor
open Go.RowKit

/-- What the library's own variables must hold. -/
def Env (w : World) : Prop := (∃ m : Int, w.cell? ⟨3, 0, none⟩ = some (.int .i64 m)) ∧ Lib.TabIs Tryz.prog w "internal/strconv.uint64pow10" .u64 Lib.pow10Tab
theorem Env.mono {w w' : World} (h : Env w) (hg : Grew w w') : Env w' := by
  obtain ⟨⟨m, hm⟩, ht⟩ := h
  exact ⟨⟨m, (hg.cell (p := ⟨3, 0, none⟩) (World.block_lt_of_cell? w _ hm)).trans hm⟩, (Lib.tabBelow_of_tabIs ht) w' hg⟩
theorem size_data (s : ByteArray) : s.data.toList.length = s.size := by cases s; rfl
theorem toList_data (s : ByteArray) : s.toList = s.data.toList := ByteArray.toList_eq s
theorem head_at (s : ByteArray) (h : 0 < s.size) : s.data.toList.head? = some s[0] := by
  rw [List.head?_eq_getElem?, List.getElem?_eq_getElem (by rw [size_data]; exact h)]; rfl
theorem last_at (s : ByteArray) (h : s.size - 1 < s.size) : s.data.toList.getLast? = some s[s.size - 1] := by
  rw [List.getLast?_eq_getElem?, List.getElem?_eq_getElem (by rw [size_data]; exact h)]
  simp only [size_data]
  rfl
theorem is32 (b : UInt8) : (some b == some (32 : UInt8)) = ((b.toNat : Int) == 32) := by
  rw [Bool.eq_iff_iff, beq_iff_eq, beq_iff_eq, Option.some.injEq, ← UInt8.toNat_inj]
  have h2 : (32 : UInt8).toNat = 32 := rfl
  omega

theorem aWithin (n lo hi : Int) (w : World) : Calls Tryz.prog 135 #[.int .i64 n, .int .i64 lo, .int .i64 hi] w fun e w' => e = .returned (.bool (within n lo hi)) ∧ w = w' := by
  unfold within
  cases a1 : decide (lo ≤ n) <;> cases a2 : decide (n ≤ hi)
  all_goals
    go_enter Tryz.func135, Tryz.ntmps135
    go_wp2
    go_ret
    exact ⟨rfl, rfl⟩

theorem rWithin (n lo hi : Int) (w : World) : Calls Tryz.prog 48 #[.int .i64 n, .int .i64 lo, .int .i64 hi] w fun e w' => e = .returned (.bool (within n lo hi)) ∧ w = w' := by
  unfold within
  cases a1 : decide (lo ≤ n) <;> cases a2 : decide (n ≤ hi)
  all_goals
    go_enter Tryz.func48, Tryz.ntmps48
    go_wp2
    go_ret
    exact ⟨rfl, rfl⟩

theorem tWithin (n lo hi : Int) (w : World) : Calls Tryz.prog 122 #[.int .i64 n, .int .i64 lo, .int .i64 hi] w fun e w' => e = .returned (.bool (within n lo hi)) ∧ w = w' := by
  unfold within
  cases a1 : decide (lo ≤ n) <;> cases a2 : decide (n ≤ hi)
  all_goals
    go_enter Tryz.func122, Tryz.ntmps122
    go_wp2
    go_ret
    exact ⟨rfl, rfl⟩

theorem aSpans (fr un : Int) (w : World) : Calls Tryz.prog 136 #[.agg #[.int .i64 fr, .int .i64 un]] w fun e w' => e = .returned (.bool (spansF fr un)) ∧ Grew w w' := by
  unfold spansF
  cases a1 : decide (0 ≤ fr) <;> cases a2 : decide (fr < un) <;> cases a3 : decide (un ≤ 1048576)
  all_goals
    go_enter Tryz.func136, Tryz.ntmps136
    go_wp2
    go_ret
    exact ⟨rfl, (Grew.refl w).alloc _⟩

theorem rSpans (fr un : Int) (w : World) : Calls Tryz.prog 49 #[.agg #[.int .i64 fr, .int .i64 un]] w fun e w' => e = .returned (.bool (spansF fr un)) ∧ Grew w w' := by
  unfold spansF
  cases a1 : decide (0 ≤ fr) <;> cases a2 : decide (fr < un) <;> cases a3 : decide (un ≤ 1048576)
  all_goals
    go_enter Tryz.func49, Tryz.ntmps49
    go_wp2
    go_ret
    exact ⟨rfl, (Grew.refl w).alloc _⟩

theorem rIn (fr un day : Int) (w : World) : Calls Tryz.prog 65 #[.agg #[.int .i64 fr, .int .i64 un], .int .i64 day] w fun e w' => e = .returned (.bool (inF fr un day)) ∧ Grew w w' := by
  unfold inF
  cases a1 : decide (fr ≤ day) <;> cases a2 : decide (day < un)
  all_goals
    go_enter Tryz.func65, Tryz.ntmps65
    go_wp2
    go_ret
    exact ⟨rfl, (Grew.refl w).alloc _⟩
theorem grew_below {w W : World} (h : Below w.heap.size w W) : Grew w W := h

theorem aName1 (x : Nat) (w : World) : Calls Tryz.prog 183 (#[.int .i32 (x : Int)] ++ #[]) w fun e w' => e = .returned (.bool (strange 32 126 x)) ∧ Below w.heap.size w w' := by
  have e1 : decide (x < 32) = decide ((x : Int) < 32) := by simp only [decide_eq_decide]; omega
  have e2 : decide (126 < x) = decide ((126 : Int) < (x : Int)) := by simp only [decide_eq_decide]; omega
  unfold strange
  rw [e1, e2]
  clear e1 e2
  cases a1 : decide ((x : Int) < 32) <;> cases a2 : decide ((126 : Int) < (x : Int))
  all_goals
    go_enter Tryz.func183, Tryz.ntmps183
    go_wp2
    go_ret
    exact ⟨rfl, Below.refl _ _⟩
theorem enters_aName1 : ∀ args w, (callFunc 183 args).run Tryz.prog w = .ok (.enter 183 args) w := enters_of Tryz.func183 (by kernel_rfl) rfl
theorem aNameAll (s : ByteArray) (w : World) : Calls Tryz.prog 161 #[.string s, .func (.func 183) #[] #[]] w fun e w' => e = .returned (.bool (!allIn 32 126 s.data.toList)) ∧ Grew w w' := by
  rw [← idx_strange 32 126 (by omega) s]
  exact Tryz.strings_ContainsFunc_grows _ #[] enters_aName1 (strange 32 126) s w (fun W x _ _ => aName1 x W)

set_option maxHeartbeats 2000000 in
theorem aName (s : ByteArray) (w : World) (hE : Env w) : Calls Tryz.prog 170 #[.string s] w fun e w' => e = .returned (.bool (nameF s.data.toList)) ∧ Grew w w' := by
  have hsd := size_data s
  by_cases h0 : s.size < 1
  · have hN : nameF s.data.toList = false := by simp only [nameF, hsd]; rw [decide_eq_false (by omega)]; rfl
    rw [hN]
    have h0' : (s.size : Int) < 1 := by omega
    clear hsd hN hE
    go_enter Tryz.func170, Tryz.ntmps170
    go_wp2
    go_ret
    exact ⟨rfl, Grew.refl w⟩
  have h0' : decide ((s.size : Int) < 1) = false := by simp; omega
  by_cases h1 : 64 < s.size
  · have hN : nameF s.data.toList = false := by simp only [nameF, hsd]; rw [decide_eq_false (by omega)]; rfl
    rw [hN]
    have h1' : (64 : Int) < (s.size : Int) := by omega
    clear hsd hN hE
    go_enter Tryz.func170, Tryz.ntmps170
    go_wp2
    go_ret
    exact ⟨rfl, Grew.refl w⟩
  have h1' : decide ((64 : Int) < (s.size : Int)) = false := by simp; omega
  have hz0 : 0 < s.size := by omega
  have hs64 : s.size ≤ 64 := by omega
  have hz1 : s.size - 1 < s.size := by omega
  have hN : nameF s.data.toList = (!((s[0].toNat : Int) == 32) && (!((s[s.size - 1].toNat : Int) == 32) && (!Lib.contains s.data.toList [32, 32] && allIn 32 126 s.data.toList))) := by
    simp only [nameF, hsd, head_at s hz0, last_at s hz1, is32]
    rw [decide_eq_true (by omega)]
    rfl
  rw [hN]
  have hi1 : (0 : Int) ≤ (s.size : Int) - 1 := by omega
  have hi2 : (s.size : Int) - 1 < (s.size : Int) := by omega
  obtain ⟨⟨m, hm⟩, -⟩ := hE
  have kc : Calls Tryz.prog 160 #[.string s, .string ⟨#[32, 32]⟩] w fun e w' => e = .returned (.bool (Lib.contains s.data.toList [32, 32])) ∧ w = w' := (Tryz.strings_Contains s ⟨#[32, 32]⟩ m w (by omega) hm).mono fun _ _ h => ⟨h.1, h.2.symm⟩
  have kf := aNameAll s w
  generalize Lib.contains s.data.toList [32, 32] = c at kc
  generalize allIn 32 126 s.data.toList = al at kf
  have KC := Lib.hid kc
  have KF := Lib.hid kf
  clear hsd hN kc kf h0 h1 hm
  cases a1 : ((s[0].toNat : Int) == 32) with
  | true =>
    go_enter Tryz.func170, Tryz.ntmps170
    go_wp2
    go_ret
    exact ⟨rfl, Grew.refl w⟩
  | false =>
  cases a2 : ((s[s.size - 1].toNat : Int) == 32) with
  | true =>
    go_enter Tryz.func170, Tryz.ntmps170
    go_wp2
    go_ret
    exact ⟨rfl, Grew.refl w⟩
  | false =>
  cases c with
  | true =>
    go_enter Tryz.func170, Tryz.ntmps170
    go_wp2_with (first | (go_at_call 160; refine KC.out.mono ?_; rintro e w1 ⟨rfl, rfl⟩))
    go_ret
    exact ⟨rfl, Grew.refl w⟩
  | false =>
    go_enter Tryz.func170, Tryz.ntmps170
    go_wp2_with (first | (go_at_call 160; refine KC.out.mono ?_; rintro e w1 ⟨rfl, rfl⟩) | (go_at_call 161; refine KF.out.mono ?_; rintro e w2 ⟨rfl, hg⟩))
    go_ret
    exact ⟨ret_bool (by simp), hg⟩

theorem tName1 (x : Nat) (w : World) : Calls Tryz.prog 162 (#[.int .i32 (x : Int)] ++ #[]) w fun e w' => e = .returned (.bool (strange 32 126 x)) ∧ Below w.heap.size w w' := by
  have e1 : decide (x < 32) = decide ((x : Int) < 32) := by simp only [decide_eq_decide]; omega
  have e2 : decide (126 < x) = decide ((126 : Int) < (x : Int)) := by simp only [decide_eq_decide]; omega
  unfold strange
  rw [e1, e2]
  clear e1 e2
  cases a1 : decide ((x : Int) < 32) <;> cases a2 : decide ((126 : Int) < (x : Int))
  all_goals
    go_enter Tryz.func162, Tryz.ntmps162
    go_wp2
    go_ret
    exact ⟨rfl, Below.refl _ _⟩
theorem enters_tName1 : ∀ args w, (callFunc 162 args).run Tryz.prog w = .ok (.enter 162 args) w := enters_of Tryz.func162 (by kernel_rfl) rfl
theorem tNameAll (s : ByteArray) (w : World) : Calls Tryz.prog 161 #[.string s, .func (.func 162) #[] #[]] w fun e w' => e = .returned (.bool (!allIn 32 126 s.data.toList)) ∧ Grew w w' := by
  rw [← idx_strange 32 126 (by omega) s]
  exact Tryz.strings_ContainsFunc_grows _ #[] enters_tName1 (strange 32 126) s w (fun W x _ _ => tName1 x W)

set_option maxHeartbeats 2000000 in
theorem tName (s : ByteArray) (w : World) (hE : Env w) : Calls Tryz.prog 123 #[.string s] w fun e w' => e = .returned (.bool (nameF s.data.toList)) ∧ Grew w w' := by
  have hsd := size_data s
  by_cases h0 : s.size < 1
  · have hN : nameF s.data.toList = false := by simp only [nameF, hsd]; rw [decide_eq_false (by omega)]; rfl
    rw [hN]
    have h0' : (s.size : Int) < 1 := by omega
    clear hsd hN hE
    go_enter Tryz.func123, Tryz.ntmps123
    go_wp2
    go_ret
    exact ⟨rfl, Grew.refl w⟩
  have h0' : decide ((s.size : Int) < 1) = false := by simp; omega
  by_cases h1 : 64 < s.size
  · have hN : nameF s.data.toList = false := by simp only [nameF, hsd]; rw [decide_eq_false (by omega)]; rfl
    rw [hN]
    have h1' : (64 : Int) < (s.size : Int) := by omega
    clear hsd hN hE
    go_enter Tryz.func123, Tryz.ntmps123
    go_wp2
    go_ret
    exact ⟨rfl, Grew.refl w⟩
  have h1' : decide ((64 : Int) < (s.size : Int)) = false := by simp; omega
  have hz0 : 0 < s.size := by omega
  have hs64 : s.size ≤ 64 := by omega
  have hz1 : s.size - 1 < s.size := by omega
  have hN : nameF s.data.toList = (!((s[0].toNat : Int) == 32) && (!((s[s.size - 1].toNat : Int) == 32) && (!Lib.contains s.data.toList [32, 32] && allIn 32 126 s.data.toList))) := by
    simp only [nameF, hsd, head_at s hz0, last_at s hz1, is32]
    rw [decide_eq_true (by omega)]
    rfl
  rw [hN]
  have hi1 : (0 : Int) ≤ (s.size : Int) - 1 := by omega
  have hi2 : (s.size : Int) - 1 < (s.size : Int) := by omega
  obtain ⟨⟨m, hm⟩, -⟩ := hE
  have kc : Calls Tryz.prog 160 #[.string s, .string ⟨#[32, 32]⟩] w fun e w' => e = .returned (.bool (Lib.contains s.data.toList [32, 32])) ∧ w = w' := (Tryz.strings_Contains s ⟨#[32, 32]⟩ m w (by omega) hm).mono fun _ _ h => ⟨h.1, h.2.symm⟩
  have kf := tNameAll s w
  generalize Lib.contains s.data.toList [32, 32] = c at kc
  generalize allIn 32 126 s.data.toList = al at kf
  have KC := Lib.hid kc
  have KF := Lib.hid kf
  clear hsd hN kc kf h0 h1 hm
  cases a1 : ((s[0].toNat : Int) == 32) with
  | true =>
    go_enter Tryz.func123, Tryz.ntmps123
    go_wp2
    go_ret
    exact ⟨rfl, Grew.refl w⟩
  | false =>
  cases a2 : ((s[s.size - 1].toNat : Int) == 32) with
  | true =>
    go_enter Tryz.func123, Tryz.ntmps123
    go_wp2
    go_ret
    exact ⟨rfl, Grew.refl w⟩
  | false =>
  cases c with
  | true =>
    go_enter Tryz.func123, Tryz.ntmps123
    go_wp2_with (first | (go_at_call 160; refine KC.out.mono ?_; rintro e w1 ⟨rfl, rfl⟩))
    go_ret
    exact ⟨rfl, Grew.refl w⟩
  | false =>
    go_enter Tryz.func123, Tryz.ntmps123
    go_wp2_with (first | (go_at_call 160; refine KC.out.mono ?_; rintro e w1 ⟨rfl, rfl⟩) | (go_at_call 161; refine KF.out.mono ?_; rintro e w2 ⟨rfl, hg⟩))
    go_ret
    exact ⟨ret_bool (by simp), hg⟩

theorem tMarks1 (x : Nat) (w : World) : Calls Tryz.prog 163 (#[.int .i32 (x : Int)] ++ #[]) w fun e w' => e = .returned (.bool (strange 33 126 x)) ∧ Below w.heap.size w w' := by
  have e1 : decide (x < 33) = decide ((x : Int) < 33) := by simp only [decide_eq_decide]; omega
  have e2 : decide (126 < x) = decide ((126 : Int) < (x : Int)) := by simp only [decide_eq_decide]; omega
  unfold strange
  rw [e1, e2]
  clear e1 e2
  cases a1 : decide ((x : Int) < 33) <;> cases a2 : decide ((126 : Int) < (x : Int))
  all_goals
    go_enter Tryz.func163, Tryz.ntmps163
    go_wp2
    go_ret
    exact ⟨rfl, Below.refl _ _⟩
theorem enters_tMarks1 : ∀ args w, (callFunc 163 args).run Tryz.prog w = .ok (.enter 163 args) w := enters_of Tryz.func163 (by kernel_rfl) rfl
theorem tMarksAll (s : ByteArray) (w : World) : Calls Tryz.prog 161 #[.string s, .func (.func 163) #[] #[]] w fun e w' => e = .returned (.bool (!allIn 33 126 s.data.toList)) ∧ Grew w w' := by
  rw [← idx_strange 33 126 (by omega) s]
  exact Tryz.strings_ContainsFunc_grows _ #[] enters_tMarks1 (strange 33 126) s w (fun W x _ _ => tMarks1 x W)

theorem tMarks (s : ByteArray) (w : World) : Calls Tryz.prog 124 #[.string s] w fun e w' => e = .returned (.bool (markF s.data.toList)) ∧ Grew w w' := by
  have hN : markF s.data.toList = (within (s.size : Int) 1 64 && allIn 33 126 s.data.toList) := by
    simp only [markF, size_data, within]
    congr 1
    rw [Bool.eq_iff_iff, decide_eq_true_eq, Bool.and_eq_true, decide_eq_true_eq, decide_eq_true_eq]
    omega
  rw [hN]
  have kw := tWithin (s.size : Int) 1 64 w
  have kf := tMarksAll s w
  generalize within (s.size : Int) 1 64 = c at kw
  generalize allIn 33 126 s.data.toList = al at kf
  have KW := Lib.hid kw
  have KF := Lib.hid kf
  clear kw kf hN
  cases c with
  | false =>
    go_enter Tryz.func124, Tryz.ntmps124
    go_wp2_with (first | (go_at_call 122; refine KW.out.mono ?_; rintro e w1 ⟨rfl, rfl⟩))
    go_ret
    exact ⟨rfl, Grew.refl w⟩
  | true =>
    go_enter Tryz.func124, Tryz.ntmps124
    go_wp2_with (first | (go_at_call 122; refine KW.out.mono ?_; rintro e w1 ⟨rfl, rfl⟩) | (go_at_call 161; refine KF.out.mono ?_; rintro e w2 ⟨rfl, hg⟩))
    go_ret
    exact ⟨ret_bool (by simp), hg⟩
end Go.Proofs.YtfghbendiofbeaaGreatDoor
