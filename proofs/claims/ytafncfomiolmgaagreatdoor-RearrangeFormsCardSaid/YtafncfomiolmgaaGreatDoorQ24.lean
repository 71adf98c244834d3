/- Lemmas on what the functions of the program and of the library compute: RC4. The conditions stand at each. -/
import Derived.Test.YtafncfomiolmgaaGreatDoorQ21
/- The reference's Decimal, walked. The condition: the number is not negative, and has at most 20 digits. -/
namespace Go.Proofs.YtafncfomiolmgaaGreatDoor
open Go.RowKit

theorem itoaB_small (n : Nat) (h : n < 10) : itoaB (n : Int) = ⟨#[UInt8.ofNat (48 + n)]⟩ := by
  unfold itoaB
  rw [Lib.itoa_nonneg, Lib.decDigits_one h]
theorem itoaB_big (n : Nat) (h : ¬ n < 10) : itoaB (n : Int) = itoaB ((n / 10 : Nat) : Int) ++ itoaB ((n % 10 : Nat) : Int) := by
  unfold itoaB
  rw [Lib.itoa_nonneg, Lib.itoa_nonneg, Lib.itoa_nonneg, Lib.decDigits_one (Nat.mod_lt n (by omega)), Lib.decDigits, dif_neg h]
  apply ByteArray.ext
  simp
theorem itoaB_len (n : Nat) (h : n ≤ 1000000000000) : (itoaB (n : Int)).size ≤ 21 := by
  have := Lib.itoa_length_le (n : Int) (by omega) (by omega)
  simpa [itoaB, ByteArray.size] using this
theorem conv_digit (n : Nat) (h : n < 10) (w : World) : (convert 89 9 (.slice (some ⟨w.heap.size, 0, none⟩) 1 1)).run Tryz.prog (w.alloc (.cells #[.int .u8 (48 + (n : Int))] 5)) = .ok (.string ⟨#[UInt8.ofNat (48 + n)]⟩) (w.alloc (.cells #[.int .u8 (48 + (n : Int))] 5)) := by
  have hb : ((UInt8.ofNat (48 + n)).toNat : Int) = 48 + (n : Int) := by
    rw [UInt8.toNat_ofNat', Nat.mod_eq_of_lt (by omega)]
    omega
  refine run_convert_bytes_back _ 89 9 5 ⟨w.heap.size, 0, none⟩ 1 [UInt8.ofNat (48 + n)] Tryz.underlying89 Tryz.underlying5 Tryz.underlying9 (fun j hj => ?_)
  obtain rfl : j = 0 := by simpa using hj
  rw [List.getElem_cons_zero, hb, add_lit, Nat.zero_add]
  simp
set_option maxHeartbeats 4000000 in
set_option maxRecDepth 100000 in
theorem refDigit (n : Nat) (h : n < 10) (w : World) : Calls Tryz.prog 41 #[.int .i64 (n : Int)] w fun e w' => e = .returned (.string (itoaB (n : Int))) ∧ Grew w w' := by
  rw [itoaB_small n h]
  have hz : (n : Int) < 10 := by omega
  have h0 : (0 : Int) ≤ (n : Int) := by omega
  have hc := conv_digit n h w
  generalize UInt8.ofNat (48 + n) = cc at hc ⊢
  go_enter Tryz.func41, Tryz.ntmps41
  go_wp2
  go_ret
  exact ⟨rfl, (Grew.refl w).alloc _⟩
set_option maxHeartbeats 4000000 in
set_option maxRecDepth 100000 in
theorem refDecimal_nat : ∀ (N : Nat) (n : Int), 0 ≤ n → n ≤ (N : Int) → n ≤ 1000000000000 → ∀ w : World, Calls Tryz.prog 41 #[.int .i64 n] w fun e w' => e = .returned (.string (itoaB n)) ∧ Grew w w' := by
  intro N
  induction N with
  | zero =>
    intro n h0 h1 h2 w
    obtain rfl : n = ((0 : Nat) : Int) := by omega
    exact refDigit 0 (by omega) w
  | succ N ih =>
    intro n h0 h1 h2 w
    obtain ⟨m, rfl⟩ : ∃ m : Nat, n = (m : Int) := ⟨n.toNat, by omega⟩
    by_cases h : m < 10
    · exact refDigit m h w
    · have hb := itoaB_big m h
      have e1 : ((m / 10 : Nat) : Int) = (m : Int) / 10 := by omega
      have e2 : ((m % 10 : Nat) : Int) = (m : Int) % 10 := by omega
      have z1 := itoaB_len (m / 10) (by omega)
      have z2 := itoaB_len (m % 10) (by omega)
      have k2 := fun w => refDigit (m % 10) (Nat.mod_lt m (by omega)) w
      rw [e1, e2] at hb
      rw [e1] at z1
      rw [e2] at z2 k2
      have K1 := Lib.hid (ih ((m : Int) / 10) (by omega) (by omega) (by omega))
      have K2 := Lib.hid k2
      have hz : ¬ (m : Int) < 10 := by omega
      clear ih e1 e2 k2
      rw [hb]
      clear hb
      generalize (m : Int) = n at *
      generalize itoaB (n / 10) = sa at *
      generalize itoaB (n % 10) = sb at *
      have hr := fun W => run_string_add (P := Tryz.prog) W sa sb (by omega) (by omega)
      clear z1 z2
      go_enter Tryz.func41, Tryz.ntmps41
      go_wp2_with fail
      refine (K1.out _).mono ?_
      rintro e w1 ⟨rfl, g1⟩
      have G1 := Lib.hid g1
      clear g1
      dsimp only
      go_wp2_with fail
      refine (K2.out _).mono ?_
      rintro e w2 ⟨rfl, g2⟩
      have G2 := Lib.hid g2
      clear g2
      dsimp only
      go_wp2
      go_ret
      exact ⟨rfl, G1.out.trans G2.out⟩
theorem refDecimal (n : Int) (h0 : 0 ≤ n) (h1 : n ≤ 1000000000000) (w : World) : Calls Tryz.prog 41 #[.int .i64 n] w fun e w' => e = .returned (.string (itoaB n)) ∧ Grew w w' := refDecimal_nat n.toNat n h0 (by omega) h1 w
end Go.Proofs.YtafncfomiolmgaaGreatDoor
