/- Lemmas on what the functions of the program and of the library compute: E26. The conditions stand at each. -/
import Derived.Test.YtfghbendiofbeaaGreatDoorQ1
import Derived.Laws.StructEq
/- Two relations compared. No condition. -/
namespace Go.Proofs.YtfghbendiofbeaaGreatDoor
open Go.RowKit

theorem spanEq (a b c d : Int) (w : World) : (Op.equalIn 9999 25 (.agg #[.int .i64 a, .int .i64 b]) (.agg #[.int .i64 c, .int .i64 d])).run Tryz.prog w = .ok (decide (a = c ∧ b = d)) w := by
  have u3 := Tryz.underlying3
  have hS : Tryz.prog.underlying 25 = some (.struct (Tryz.prog.fieldsOf 25)) := by kernel_rfl
  have hp : Tryz.prog.stoodInHeld 25 = false := by kernel_rfl
  rw [show (9999 : Nat) = 9998 + 1 from rfl, run_equalIn_agg w 9998 25 _ _ hS hp]
  simp only [Program.fieldsOf, Tryz.underlying25]
  go_simp
  by_cases h1 : a = c <;> by_cases h2 : b = d <;> simp [h1, h2]
theorem relIn (x y : Rel) (w : World) : (Op.equalIn 10000 27 x.agg y.agg).run Tryz.prog w = .ok (decide (x = y)) w := by
  have u3 := Tryz.underlying3
  have hS : Tryz.prog.underlying 27 = some (.struct (Tryz.prog.fieldsOf 27)) := by kernel_rfl
  have hp : Tryz.prog.stoodInHeld 27 = false := by kernel_rfl
  obtain ⟨xu, xr, xa, xf, xn⟩ := x
  obtain ⟨yu, yr, ya, yf, yn⟩ := y
  simp only [Rel.agg]
  have hs := fun w => spanEq xf xn yf yn w
  rw [show (10000 : Nat) = 9999 + 1 from rfl, run_equalIn_agg w 9999 27 _ _ hS hp]
  simp only [Program.fieldsOf, Tryz.underlying27]
  go_simp
  by_cases h1 : xu = yu <;> by_cases h2 : xr = yr <;> by_cases h3 : xa = ya <;> by_cases h4 : xf = yf <;> by_cases h5 : xn = yn <;> simp [h1, h2, h3, h4, h5]
theorem relNeq (xu xr xa xf xn yu yr ya yf yn : Int) (w : World) : (binOp .neq 27 (.agg #[.int .i64 xu, .int .i64 xr, .int .i64 xa, .int .i64 xf, .int .i64 xn]) (.agg #[.int .i64 yu, .int .i64 yr, .int .i64 ya, .int .i64 yf, .int .i64 yn])).run Tryz.prog w = .ok (.bool (!decide ((⟨xu, xr, xa, xf, xn⟩ : Rel) = ⟨yu, yr, ya, yf, yn⟩))) w := by
  have h := relIn ⟨xu, xr, xa, xf, xn⟩ ⟨yu, yr, ya, yf, yn⟩ w
  unfold Rel.agg at h
  rw [run_neq_struct, h]
  rfl
end Go.Proofs.YtfghbendiofbeaaGreatDoor
