/- The reference implementation's search in a list of strings, walked. No condition. -/
import Derived.Test.YtiikniopjcnphaaDoorE4
namespace Go.Proofs.YtiikniopjcnphaaDoor
open Go.RowKit

/-- Whether a list has a string. -/
def hasF (l : List ByteArray) (s : ByteArray) : Bool := l.any fun y => y.toList == s.toList
theorem hasF_hit (l : List ByteArray) (s : ByteArray) (k : Nat) (hk : k < l.length) (h : (l[k].toList == s.toList) = true) : hasF l s = true := List.any_eq_true.2 ⟨l[k], List.getElem_mem hk, h⟩
theorem hasF_miss (l : List ByteArray) (s : ByteArray) (h : ∀ i (hi : i < l.length), (l[i].toList == s.toList) = false) : hasF l s = false := by
  rw [hasF, List.any_eq_false]
  intro y hy
  obtain ⟨i, hi, rfl⟩ := List.mem_iff_getElem.1 hy
  simp [h i hi]
set_option maxHeartbeats 1000000 in
theorem has_any (l : List ByteArray) (s : ByteArray) (v : Value) (w : World) (hv : SlS w v l) : Calls Tryd.prog 45 #[v, .string s] w fun e w' => e = .returned (.bool (hasF l s)) ∧ w = w' := by
  obtain ⟨A, c, rfl, hlc, hc, hr⟩ := hv.open_
  unfold maxLen at hc
  have HR := Lib.hid hr
  clear hr hv
  generalize hF : hasF l s = R
  have HF := Lib.hid hF
  clear hF
  go_enter Tryd.func45, Tryd.ntmps45
  go_wp2
  go_loop [5] (fun i => ∃ k : Nat, k ≤ l.length ∧ i = .int .i64 k ∧ Aside (∀ i (hi : i < l.length), i < k → (l[i].toList == s.toList) = false)) (fun i => l.length - (intOf i).toNat)
  case atStart => exact ⟨0, by omega, rfl, fun i hi h2 => by omega⟩
  case round =>
    obtain ⟨k, hk, rfl, M⟩ := hrel
    by_cases hlt : k < l.length
    · have hltz : (k : Int) < (l.length : Int) := by omega
      have h0z : (0 : Int) ≤ (k : Int) := by omega
      obtain ⟨b, off, rfl, hb, hcell⟩ := HR.out (by omega)
      have hcl := hcell w (Grew.refl w) k hlt
      cases hq : (l[k].toList == s.toList) with
      | true =>
        have Hh := Lib.hid (HF.out.symm.trans (hasF_hit l s k hlt hq))
        generalize l[k] = y at hcl hq
        clear hcell
        go_wp2
        go_ret
        exact ⟨ret_bool Hh.out.symm, rfl⟩
      | false =>
        have Hq : Aside ((l[k].toList == s.toList) = false) := hq
        generalize l[k] = y at hcl hq
        clear hcell
        go_wp2
        go_round
        case rel =>
          refine ⟨k + 1, by omega, by go_num, fun i hi h2 => ?_⟩
          by_cases e : i = k
          · subst e; exact Hq.out
          · exact M.out i hi (by omega)
        case measure => simp [intOf]; omega
    · have hltz : ¬ (k : Int) < (l.length : Int) := by omega
      have Hm := Lib.hid (HF.out.symm.trans (hasF_miss l s (fun i hi => M.out i hi (by omega))))
      go_wp2
      go_ret
      exact ⟨ret_bool Hm.out.symm, rfl⟩
end Go.Proofs.YtiikniopjcnphaaDoor
