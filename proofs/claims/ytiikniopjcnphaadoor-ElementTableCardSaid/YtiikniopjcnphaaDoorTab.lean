/- The statement on the elements' table, walked: it returns true at every input and changes no block that lay before. No condition. -/
import Derived.Test.YtiikniopjcnphaaDoorE9
namespace Go.Proofs.YtiikniopjcnphaaDoor
open Go.RowKit

set_option maxRecDepth 100000 in
theorem table_long (n lv : Int) (word : ByteArray) (w : World) (h : 300 < word.size) : Calls Tryd.prog 3 #[.int .i64 n, .int .i64 lv, .string word] w fun e w' => e = .returned (.bool true) ∧ Grew w w' := by
  go_enter Tryd.func3, Tryd.ntmps3
  go_wp2_with fail
  refine (awake_any w).mono ?_
  rintro e w1 ⟨rfl, g1⟩
  dsimp only
  have hs : (decide ((300 : Int) < (word.size : Int))) = true := by simp; omega
  go_wp2_with fail
  refine (awake_any w1).mono ?_
  rintro e w2 ⟨rfl, g2⟩
  dsimp only
  go_wp2_with fail
  all_goals go_ret
  all_goals exact ⟨rfl, g1.trans g2⟩
set_option maxRecDepth 100000 in
theorem table_short (n lv : Int) (word : ByteArray) (w : World) (h : ¬ 300 < word.size) : Calls Tryd.prog 3 #[.int .i64 n, .int .i64 lv, .string word] w fun e w' => e = .returned (.bool true) ∧ Grew w w' := by
  go_enter Tryd.func3, Tryd.ntmps3
  go_wp2_with fail
  refine (awake_any w).mono ?_
  rintro e w1 ⟨rfl, g1⟩
  dsimp only
  have hs : (decide ((300 : Int) < (word.size : Int))) = false := by simp; omega
  go_wp2_with fail
  refine (word_any n w1).mono ?_
  rintro e w2 ⟨rfl, g2⟩
  dsimp only
  go_wp2_with fail
  refine (refWord_any n w2).mono ?_
  rintro e w3 ⟨rfl, g3⟩
  dsimp only
  go_wp2_with fail
  refine (number_any word w3).mono ?_
  rintro e w4 ⟨rfl, g4⟩
  dsimp only
  go_wp2_with fail
  refine (refNumber_any word w4).mono ?_
  rintro e w5 ⟨rfl, g5⟩
  dsimp only
  go_wp2_with fail
  refine (inherited_any n w5).mono ?_
  rintro e w6 ⟨rfl, g6⟩
  dsimp only
  go_wp2_with fail
  refine (refInherited_any n w6).mono ?_
  rintro e w7 ⟨rfl, rfl⟩
  dsimp only
  go_wp2_with fail
  refine (allowed_any n lv w6).mono ?_
  rintro e w8 ⟨rfl, g8⟩
  dsimp only
  go_wp2_with fail
  refine (refAllowed_any n lv w8).mono ?_
  rintro e w9 ⟨rfl, rfl⟩
  dsimp only
  go_wp2_with fail
  all_goals go_ret
  all_goals exact ⟨rfl, (((((g1.trans g2).trans g3).trans g4).trans g5).trans g6).trans g8⟩
theorem table_any (n lv : Int) (word : ByteArray) (w : World) : Calls Tryd.prog 3 #[.int .i64 n, .int .i64 lv, .string word] w fun e w' => e = .returned (.bool true) ∧ Grew w w' := by
  by_cases h : 300 < word.size
  · exact table_long n lv word w h
  · exact table_short n lv word w h
end Go.Proofs.YtiikniopjcnphaaDoor
