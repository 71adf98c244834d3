/- The reference implementation's bound on sizes, walked: where it says yes, the lists are short. No condition. -/
import Derived.Test.YtiikniopjcnphaaDoorR1
namespace Go.Proofs.YtiikniopjcnphaaDoor
open Go.RowKit

/-- How the bound ends: no, or yes and short. -/
def FewEnd (w : World) (n m : Nat) (e : Ending) (w' : World) : Prop := (e = .returned (.bool false) ∨ (e = .returned (.bool true) ∧ n ≤ 10 ∧ m ≤ 1025)) ∧ w = w'
set_option maxHeartbeats 4000000 in
theorem few_any (l : List ByteArray) (vs : List Val) (lv vv : Value) (w : World) (hl : SlS w lv l) (hv : SlV w vv vs) :
    Calls Tryd.prog 18 #[lv, vv] w fun e w' => FewEnd w l.length vs.length e w' := by
  obtain ⟨A, c, rfl, hlc, hc, hr⟩ := hl.open_
  obtain ⟨A', c', rfl, hlc', hc', hr'⟩ := hv.open_
  unfold maxLen at hc hc'
  have HR := Lib.hid hr
  have HR' := Lib.hid hr'
  clear hr hr' hl hv
  go_enter Tryd.func18, Tryd.ntmps18
  go_wp2
  go_loop [5] (fun i => ∃ k : Nat, k ≤ l.length ∧ i = .int .i64 k) (fun i => l.length - (intOf i).toNat)
  case atStart => exact ⟨0, by omega, rfl⟩
  case round =>
    obtain ⟨k, hk, rfl⟩ := hrel
    by_cases hlt : k < l.length
    · have hltz : (k : Int) < (l.length : Int) := by omega
      have h0z : (0 : Int) ≤ (k : Int) := by omega
      obtain ⟨b, off, rfl, hb, hcell⟩ := HR.out (by omega)
      have hcl := hcell w (Grew.refl w) k hlt
      generalize l[k] = y at hcl
      clear hcell
      by_cases hs : 20 < y.size
      · have hsz : (20 : Int) < (y.size : Int) := by omega
        go_wp2
        go_ret
        exact ⟨Or.inl rfl, rfl⟩
      · have hsz : decide ((20 : Int) < (y.size : Int)) = false := by simp; omega
        go_wp2
        go_round
        case rel => exact ⟨k + 1, by omega, by go_num⟩
        case measure => simp [intOf]; omega
    · have hltz : ¬ (k : Int) < (l.length : Int) := by omega
      go_wp2
      go_loop [6] (fun i => ∃ m : Nat, m ≤ vs.length ∧ i = .int .i64 m) (fun i => vs.length - (intOf i).toNat)
      case atStart => exact ⟨0, by omega, rfl⟩
      case round =>
        obtain ⟨m, hm, rfl⟩ := hrel
        by_cases hlm : m < vs.length
        · have hlmz : (m : Int) < (vs.length : Int) := by omega
          have h0m : (0 : Int) ≤ (m : Int) := by omega
          obtain ⟨b, off, rfl, hb, hcell⟩ := HR'.out (by omega)
          obtain ⟨-, -, c2, c3⟩ := hcell w (Grew.refl w) m hlm
          generalize vs[m].lang = yl at c2
          generalize vs[m].text = yt at c3
          clear hcell
          cases a1 : decide ((300 : Int) < (yt.size : Int)) <;> cases a2 : ((yt.size : Int) == 4096) <;> cases a3 : ((yt.size : Int) == 4097) <;> cases a4 : decide ((20 : Int) < (yl.size : Int))
          all_goals go_wp2
          all_goals first | (go_ret; exact ⟨Or.inl rfl, rfl⟩) | (go_round; (case rel => exact ⟨m + 1, by omega, by go_num⟩); (case measure => simp [intOf]; omega))
        · have hlmz : ¬ (m : Int) < (vs.length : Int) := by omega
          cases a1 : decide ((l.length : Int) ≤ 10) <;> cases a2 : decide ((vs.length : Int) ≤ 30) <;> cases a3 : ((vs.length : Int) == 1025)
          all_goals go_wp2
          all_goals go_ret
          all_goals refine ⟨?_, rfl⟩
          all_goals first | exact Or.inl rfl | exact Or.inr ⟨rfl, by simp at a1 a2 a3; omega, by simp at a1 a2 a3; omega⟩
end Go.Proofs.YtiikniopjcnphaaDoor
