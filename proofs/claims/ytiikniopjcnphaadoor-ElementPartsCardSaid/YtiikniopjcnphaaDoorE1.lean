/- The table of the elements: what the functions that read it return. No condition. -/
import Derived.Test.YtiikniopjcnphaaDoorProg
import Derived.Test.YtiikniopjcnphaaDoorTypes
namespace Go.Proofs.YtiikniopjcnphaaDoor
open Go.RowKit

def isEl (n : Int) : Bool := decide (1 ≤ n ∧ n ≤ 8)
theorem isEl_t {n : Int} (h : isEl n = true) : 1 ≤ n ∧ n ≤ 8 := of_decide_eq_true h
theorem isEl_f {n : Int} (h : isEl n = false) : ¬ (1 ≤ n ∧ n ≤ 8) := of_decide_eq_false h
theorem isEl_cases {n : Int} (h : isEl n = true) : n = 1 ∨ n = 2 ∨ n = 3 ∨ n = 4 ∨ n = 5 ∨ n = 6 ∨ n = 7 ∨ n = 8 := by
  have := isEl_t h; omega

def kind0 : Kind := ⟨⟨#[]⟩, false, 0⟩
def kindTab : List Kind :=
  [kind0, ⟨⟨#[115, 99, 111, 112, 101]⟩, false, 30⟩, ⟨⟨#[104, 105, 115, 116, 111, 114, 121]⟩, true, 14⟩, ⟨⟨#[109, 97, 116, 101, 114, 105, 97, 108]⟩, true, 30⟩,
   ⟨⟨#[99, 111, 110, 100, 105, 116, 105, 111, 110, 115]⟩, true, 30⟩, ⟨⟨#[100, 97, 116, 101, 115]⟩, false, 30⟩, ⟨⟨#[110, 111, 116, 101]⟩, false, 30⟩, ⟨⟨#[111, 114, 100, 101, 114]⟩, false, 6⟩,
   ⟨⟨#[101, 120, 116, 101, 110, 116]⟩, false, 24⟩]
def kindOf (n : Int) : Kind := if isEl n then kindTab.getD n.toNat kind0 else kind0

theorem known_t (n : Int) (w : World) (h : isEl n = true) : Calls Tryd.prog 54 #[.int .i64 n] w fun e w' => e = .returned (.bool true) ∧ w = w' := by
  obtain ⟨h1, h2⟩ := isEl_t h
  clear h
  go_enter Tryd.func54, Tryd.ntmps54
  go_wp2
  go_ret
  exact ⟨rfl, rfl⟩
theorem known_f (n : Int) (w : World) (h : isEl n = false) : Calls Tryd.prog 54 #[.int .i64 n] w fun e w' => e = .returned (.bool false) ∧ w = w' := by
  have h' := isEl_f h
  clear h
  by_cases h1 : 1 ≤ n
  · have h2 : ¬ n ≤ 8 := fun x => h' ⟨h1, x⟩
    clear h'
    go_enter Tryd.func54, Tryd.ntmps54
    go_wp2
    go_ret
    exact ⟨rfl, rfl⟩
  · clear h'
    go_enter Tryd.func54, Tryd.ntmps54
    go_wp2
    go_ret
    exact ⟨rfl, rfl⟩
theorem isElement_t (n : Int) (w : World) (h : isEl n = true) : Calls Tryd.prog 36 #[.int .i64 n] w fun e w' => e = .returned (.bool true) ∧ w = w' := by
  obtain ⟨h1, h2⟩ := isEl_t h
  clear h
  go_enter Tryd.func36, Tryd.ntmps36
  go_wp2
  go_ret
  exact ⟨rfl, rfl⟩
theorem isElement_f (n : Int) (w : World) (h : isEl n = false) : Calls Tryd.prog 36 #[.int .i64 n] w fun e w' => e = .returned (.bool false) ∧ w = w' := by
  have h' := isEl_f h
  clear h
  by_cases h1 : 1 ≤ n
  · have h2 : ¬ n ≤ 8 := fun x => h' ⟨h1, x⟩
    clear h'
    go_enter Tryd.func36, Tryd.ntmps36
    go_wp2
    go_ret
    exact ⟨rfl, rfl⟩
  · clear h'
    go_enter Tryd.func36, Tryd.ntmps36
    go_wp2
    go_ret
    exact ⟨rfl, rfl⟩

set_option maxRecDepth 100000 in
theorem kinds_any (w : World) : Calls Tryd.prog 38 #[] w fun e w' => e = .returned (.agg (kindTab.flatMap Kind.cells).toArray) ∧ Grew w w' := by
  go_enter Tryd.func38, Tryd.ntmps38
  go_wp2_with (refine wpList_store_new rfl 57 _ _ rfl _ _ rfl rfl (by kernel_rfl) (by simp) (by simp [Value.oneCell']) ?_)
  refine bodyPost_ret (v := .agg (kindTab.flatMap Kind.cells).toArray) (results_cell_row rfl _ _ w.heap.size 57 _ (0, 0) _ rfl (heap_alloc_new _ _) Tryd.underlying57 rfl (by kernel_rfl)) rfl ⟨rfl, (Grew.refl w).alloc _⟩

theorem ix1 (w : World) : (Instr.index 57 (.agg (kindTab.flatMap Kind.cells).toArray) (.int .i64 1)).run Tryd.prog w = .ok (kindTab.getD 1 kind0).agg w := by kernel_rfl
theorem ix2 (w : World) : (Instr.index 57 (.agg (kindTab.flatMap Kind.cells).toArray) (.int .i64 2)).run Tryd.prog w = .ok (kindTab.getD 2 kind0).agg w := by kernel_rfl
theorem ix3 (w : World) : (Instr.index 57 (.agg (kindTab.flatMap Kind.cells).toArray) (.int .i64 3)).run Tryd.prog w = .ok (kindTab.getD 3 kind0).agg w := by kernel_rfl
theorem ix4 (w : World) : (Instr.index 57 (.agg (kindTab.flatMap Kind.cells).toArray) (.int .i64 4)).run Tryd.prog w = .ok (kindTab.getD 4 kind0).agg w := by kernel_rfl
theorem ix5 (w : World) : (Instr.index 57 (.agg (kindTab.flatMap Kind.cells).toArray) (.int .i64 5)).run Tryd.prog w = .ok (kindTab.getD 5 kind0).agg w := by kernel_rfl
theorem ix6 (w : World) : (Instr.index 57 (.agg (kindTab.flatMap Kind.cells).toArray) (.int .i64 6)).run Tryd.prog w = .ok (kindTab.getD 6 kind0).agg w := by kernel_rfl
theorem ix7 (w : World) : (Instr.index 57 (.agg (kindTab.flatMap Kind.cells).toArray) (.int .i64 7)).run Tryd.prog w = .ok (kindTab.getD 7 kind0).agg w := by kernel_rfl
theorem ix8 (w : World) : (Instr.index 57 (.agg (kindTab.flatMap Kind.cells).toArray) (.int .i64 8)).run Tryd.prog w = .ok (kindTab.getD 8 kind0).agg w := by kernel_rfl

def kindCells : Array Value := (kindTab.flatMap Kind.cells).toArray
theorem kinds_any' (w : World) : Calls Tryd.prog 38 #[] w fun e w' => e = .returned (.agg kindCells) ∧ Grew w w' := kinds_any w
theorem index_kinds (n : Int) (h : isEl n = true) (w : World) : (Instr.index 57 (.agg kindCells) (.int .i64 n)).run Tryd.prog w = .ok (.agg #[.string (kindOf n).word, .bool (kindOf n).inh, .int .i64 (kindOf n).lev]) w := by
  rcases isEl_cases h with rfl | rfl | rfl | rfl | rfl | rfl | rfl | rfl
  · exact ix1 w
  · exact ix2 w
  · exact ix3 w
  · exact ix4 w
  · exact ix5 w
  · exact ix6 w
  · exact ix7 w
  · exact ix8 w

theorem of_any (n : Int) (w : World) : Calls Tryd.prog 35 #[.int .i64 n] w fun e w' => e = .returned (kindOf n).agg ∧ Grew w w' := by
  by_cases h : isEl n = true
  · have hix := index_kinds n h
    have hk := Lib.hid h
    unfold Kind.agg
    generalize kindOf n = k at hix ⊢
    clear h
    go_enter Tryd.func35, Tryd.ntmps35
    go_wp2_with (first | (go_at_call 54; refine (known_t _ _ hk.out).mono ?_; rintro e w1 ⟨rfl, rfl⟩) | (go_at_call 38; refine (kinds_any' _).mono ?_; rintro e w1 ⟨rfl, hb⟩; have hsz := hb.size; obtain ⟨hc, hf⟩ := hb.cells))
    refine bodyPost_ret (v := .agg #[.string k.word, .bool k.inh, .int .i64 k.lev]) (by simp [results, Tryd.results35, go_sem, hc]) rfl ⟨rfl, ?_⟩
    exact ((((Grew.refl w).alloc _).trans hb).setCell (Nat.le_refl _) _).setCell (Nat.le_refl _) _ |>.setCell (Nat.le_refl _) _
  · have e : kindOf n = kind0 := by simp [kindOf, h]
    rw [e]
    simp only [Bool.not_eq_true] at h
    have hk := Lib.hid h
    clear h e
    go_enter Tryd.func35, Tryd.ntmps35
    go_wp2_with (first | (go_at_call 54; refine (known_f _ _ hk.out).mono ?_; rintro e w1 ⟨rfl, rfl⟩))
    refine bodyPost_ret (v := kind0.agg) (by simp [results, Tryd.results35, go_sem, Kind.agg, kind0]) rfl ⟨rfl, (Grew.refl _).alloc _⟩
end Go.Proofs.YtiikniopjcnphaaDoor
