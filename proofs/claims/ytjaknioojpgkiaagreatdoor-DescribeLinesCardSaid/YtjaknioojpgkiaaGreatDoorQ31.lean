/- Lemmas on what the functions of the program and of the library compute: F3. The conditions stand at each. -/
import Derived.Test.YtjaknioojpgkiaaGreatDoorQ30
import Derived.Test.YtjaknioojpgkiaaGreatDoorQ4
/- The bound on sizes of trees (the verifier's Few), walked: where it says yes, the lists and the marks are short. No condition. -/
namespace Go.Proofs.YtjaknioojpgkiaaGreatDoor
open Go.RowKit

def FewTM (rs : List Int) (br : List Br) : Prop := rs.length ≤ 20 ∧ br.length ≤ 257 ∧ ∀ i (h : i < br.length), br[i].kids.length ≤ 20 ∧ br[i].mark.size ≤ 100
theorem FewTM.br {rs : List Int} {br : List Br} (h : FewTM rs br) : FewBr br := ⟨by have := h.2.1; omega, fun i hi => by have := (h.2.2 i hi).1; omega⟩
theorem FewTM.marks {rs : List Int} {br : List Br} (h : FewTM rs br) : ∀ i (h : i < br.length), br[i].mark.size ≤ 9223372036854775807 := fun i hi => by have := (h.2.2 i hi).2; omega
theorem FewTM.rs {rs : List Int} {br : List Br} (h : FewTM rs br) : rs.length ≤ 1000000 := by have := h.1; omega
set_option maxHeartbeats 4000000 in
theorem few19_m (rs : List Int) (br : List Br) (rv bv : Value) (w : World) (hr : SlI w rv rs) (hb : SlBr w bv br) : Calls Tryz.prog 49 #[.agg #[rv, bv]] w (YesIf (FewTM rs br) w) := by
  have HD := Lib.hid (show FewTM rs br ↔ rs.length ≤ 20 ∧ br.length ≤ 257 ∧ ∀ i (h : i < br.length), br[i].kids.length ≤ 20 ∧ br[i].mark.size ≤ 100 from Iff.rfl)
  generalize FewTM rs br = PP at HD ⊢
  obtain ⟨Ar, cr, rfl, hlr, hcr, -⟩ := hr.open_
  obtain ⟨Ab, cb, rfl, hlb, hcb, hcell0⟩ := hb.open_
  unfold maxLen at hcr hcb
  have HR := Lib.hid hcell0
  clear hr hb hcell0
  by_cases h0 : ((20 < br.length ∧ br.length ≠ 257) ∨ 20 < rs.length)
  · cases a1 : decide ((20 : Int) < (br.length : Int)) <;> cases a2 : ((br.length : Int) != 257) <;> cases a3 : decide ((20 : Int) < (rs.length : Int))
    all_goals first | (exfalso; simp at a1 a2 a3; omega) | skip
    all_goals clear h0
    all_goals
      go_enter Tryz.func49, Tryz.ntmps49
      go_wp2
      go_ret
      exact YesIf.no ((Grew.refl w).alloc _)
  · have HS := Lib.hid (show rs.length ≤ 20 ∧ br.length ≤ 257 by omega)
    cases a1 : decide ((20 : Int) < (br.length : Int)) <;> cases a2 : ((br.length : Int) != 257) <;> cases a3 : decide ((20 : Int) < (rs.length : Int))
    all_goals first | (exfalso; simp at a1 a2 a3; omega) | skip
    all_goals clear h0
    all_goals
      go_enter Tryz.func49, Tryz.ntmps49
      go_wp2
      go_loop [3] (fun i => ∃ k : Nat, k ≤ br.length ∧ i = .int .i64 k ∧ Aside (∀ i (h : i < br.length), i < k → br[i].kids.length ≤ 20 ∧ br[i].mark.size ≤ 100)) (fun i => br.length - (intOf i).toNat)
      case atStart => exact ⟨0, by omega, rfl, (show Aside _ from fun i h h2 => by omega)⟩
      case round =>
        obtain ⟨k, hk, rfl, M⟩ := hrel
        by_cases hlt : k < br.length
        · have hltz : (k : Int) < (br.length : Int) := by omega
          have h0z : (0 : Int) ≤ (k : Int) := by omega
          obtain ⟨b, off, rfl, hb, hcell⟩ := HR.out (by omega)
          obtain ⟨kv, hkv, hcl⟩ := hcell k hlt
          obtain ⟨c0, c1, c2, c3, c4, c5⟩ := hcl _ ((Grew.refl w).alloc (.cells #[.slice Ar rs.length cr, .slice (some ⟨b, off, none⟩) br.length cb] 25))
          have HY : RowKit.Hid (br[k].kids.length ≤ 20 ∧ br[k].mark.size ≤ 100 → ∀ i (h : i < br.length), i < k + 1 → br[i].kids.length ≤ 20 ∧ br[i].mark.size ≤ 100) := fun h i hi h2 => by
            by_cases e : i = k
            · subst e; exact h
            · exact M.out i hi (by omega)
          obtain ⟨Ak, ck, rfl, hkc, hkm, -⟩ := hkv.open_
          unfold maxLen at hkm
          generalize br[k] = y at c0 c1 c2 c3 c4 c5 HY hkc
          obtain ⟨y0, y1, y2, y3, y4, y5⟩ := y
          dsimp only at c0 c1 c2 c3 c4 c5 HY hkc
          clear hcell hcl hkv
          cases e1 : decide ((20 : Int) < (y5.length : Int)) <;> cases e2 : decide ((100 : Int) < (y3.size : Int)) <;> cases e3 : decide ((100 : Int) < (y4.size : Int))
          all_goals go_wp2
          all_goals first | (go_ret; exact YesIf.no ((Grew.refl w).alloc _)) | skip
          go_round
          case rel => exact ⟨k + 1, by omega, by go_num, (show Aside _ from HY.out ⟨by simp at e1; omega, by simp at e3; omega⟩)⟩
          case measure => simp [intOf]; omega
        · have hltz : ¬ (k : Int) < (br.length : Int) := by omega
          go_wp2
          go_ret
          exact YesIf.yes (HD.out.2 ⟨HS.out.1, HS.out.2, fun i h => M.out i h (by omega)⟩) ((Grew.refl w).alloc _)
end Go.Proofs.YtjaknioojpgkiaaGreatDoor
