/- Lemmas on what the functions of the program and of the library compute: RC1. The conditions stand at each. -/
import Derived.Test.YtjaknioojpgkiaaGreatDoorQ19
import Derived.Test.YtjaknioojpgkiaaGreatDoorQ4
/- The reference's Insert into an ascending list of numbers, walked. The condition: the list is short. -/
namespace Go.Proofs.YtjaknioojpgkiaaGreatDoor
open Go.RowKit

def RetI (l : List Int) (w : World) (e : Ending) (w' : World) : Prop := ∃ v, e = .returned v ∧ SlI w' v l ∧ Grew w w'
theorem ins_done {w : World} {base : Nat} {v : Value} {p q : List Int} {x : Int} {m : Nat} (h : w.ownsRow base 3 1 v m ([] ++ p.flatMap oneI ++ [.int .i64 x] ++ q.flatMap oneI)) : SlI w v (p ++ x :: q) := by
  have e : ([] ++ p.flatMap oneI ++ [.int .i64 x] ++ q.flatMap oneI) = (p ++ x :: q).flatMap oneI := by simp [oneI]
  rw [e] at h
  exact Rd.of_own h
set_option maxHeartbeats 8000000 in
set_option maxRecDepth 100000 in
theorem refInsert (l : List Int) (n : Int) (v : Value) (w : World) (hv : SlI w v l) (hl : l.length ≤ 1000000) : Calls Tryz.prog 78 #[v, .int .i64 n] w (RetI (insU n l) w) := by
  have HV := Lib.hid hv
  obtain ⟨A, c, rfl, hlc, hc, hr⟩ := hv.open_
  unfold maxLen at hc
  have HR := Lib.hid hr
  obtain ⟨k0, hk0, hx0, hx1, hx2⟩ := info_parts cinfoI
  have HI1 := Lib.hid (insU_at n l)
  have HI2 := Lib.hid (insU_in n l)
  generalize insU n l = R at HI1 HI2 ⊢
  clear hr hv
  go_enter Tryz.func78, Tryz.ntmps78
  go_wp2
  go_loop [5] (fun i => ∃ k : Nat, k ≤ l.length ∧ i = .int .i64 k ∧ Aside (∀ j (hj : j < l.length), j < k → l[j] < n)) (fun i => l.length - (intOf i).toNat)
  case atStart => exact ⟨0, by omega, rfl, (show Aside _ from fun j h h2 => absurd h2 (Nat.not_lt_zero _))⟩
  case round =>
    obtain ⟨k, hk, rfl, M⟩ := hrel
    have h0z : (0 : Int) ≤ (k : Int) := by omega
    by_cases hin : ∃ h : k < l.length, l[k] ≤ n
    · obtain ⟨hlt, hle⟩ := hin
      have hltz : (k : Int) < (l.length : Int) := by omega
      obtain ⟨b, off, rfl, hb, hcell⟩ := HR.out (by omega)
      have c0 := hcell _ (Grew.refl w) k hlt
      have HN : RowKit.Hid (l[k] < n → ∀ j (h : j < l.length), j < k + 1 → l[j] < n) := fun h j hj h2 => by
        by_cases e : j = k
        · subst e; exact h
        · exact M.out j hj (by omega)
      have HS := Lib.hid (HI2.out k hlt M.out)
      generalize l[k] = y at c0 HN HS hle
      clear hcell
      by_cases he : y = n
      · have he' : (y == n) = true := by simpa using he
        have hy : decide (y < n) = false := by simp; omega
        have hR := HS.out he
        subst hR
        clear HN HS he hle M HI1 HI2
        go_wp2
        go_ret
        exact ⟨_, rfl, HV.out, Grew.refl _⟩
      · have hy : decide (y < n) = true := by simp; omega
        have Hy := Lib.hid (HN.out (by omega))
        clear HN HS he M HI1 HI2
        go_wp2
        go_round
        case rel => exact ⟨k + 1, by omega, by go_num, (show Aside _ from Hy.out)⟩
        case measure => simp [intOf]; omega
    have hR := HI1.out k hk M.out (fun h => by by_cases e : l[k] ≤ n; · exact absurd ⟨h, e⟩ hin
                                               · omega)
    subst hR
    clear HI1 HI2 M
    have hsz1 : 0 < 1 := by omega
    have e1 := part_to Tryz.underlying22 hk0 A l.length c k hk hlc
    have e2 := part_from Tryz.underlying22 hk0 hx1 A l.length c k hk
    have HP : RowKit.Hid (∀ W, Grew w W → Rd W 1 (.slice A k c) ((l.take k).flatMap oneI)) := fun W hW => by
      have h := preV_rd (Rd.mono HV.out hW) hk
      rw [(flat_take (f := oneI) (k := 1) (fun _ => rfl) l k).1] at h
      exact h
    have HS : RowKit.Hid (∀ W, Grew w W → Rd W 1 (sufV A l.length c k 1) ((l.drop k).flatMap oneI)) := fun W hW => by
      have h := sufV_rd (Rd.mono HV.out hW) hk
      rw [(flat_take (f := oneI) (k := 1) (fun _ => rfl) l k).2] at h
      exact h
    generalize sufV A l.length c k 1 = V2 at e2 HS
    have hpl : ((l.take k).flatMap oneI).length = k * 1 := by rw [flatMap_len oneI 1 (fun _ => rfl), List.length_take, Nat.min_eq_left hk]
    have hsl : ((l.drop k).flatMap oneI).length = (l.length - k) * 1 := by rw [flatMap_len oneI 1 (fun _ => rfl), List.length_drop]
    have hp63 : 0 + k ≤ maxLen := by unfold maxLen; omega
    have hpb : (0 + k) * 8 ≤ 140737488355328 := by omega
    have hq63 : 0 + k + 1 ≤ maxLen := by unfold maxLen; omega
    have hqb : (0 + k + 1) * 8 ≤ 140737488355328 := by omega
    have hs63 : 0 + k + 1 + (l.length - k) ≤ maxLen := by unfold maxLen; omega
    have hsb : (0 + k + 1 + (l.length - k)) * 8 ≤ 140737488355328 := by omega
    have hone : ∀ u ∈ [Value.int .i64 n], u.oneCell' = true := by simp [Value.oneCell']
    have HPL := Lib.hid hpl
    have HSL := Lib.hid hsl
    clear hpl hsl
    have hcase : (k < l.length ∧ ∃ b off, A = some ⟨b, off, none⟩ ∧ ∃ y, n < y ∧ w.cell? ⟨b, off + k, none⟩ = some (.int .i64 y)) ∨ ¬ k < l.length := by
      by_cases hlt : k < l.length
      · obtain ⟨b, off, hA, hb, hcell⟩ := HR.out (by omega)
        exact .inl ⟨hlt, b, off, hA, l[k], by by_cases e : l[k] ≤ n; · exact absurd ⟨hlt, e⟩ hin
                                              · omega, hcell _ (Grew.refl w) k hlt⟩
      · exact .inr hlt
    clear hin
    rcases hcase with ⟨hlt, b, off, rfl, y, hy, c0⟩ | hge
    · have hltz : (k : Int) < (l.length : Int) := by omega
      have hy1 : decide (y < n) = false := by simp; omega
      have hy2 : (y == n) = false := by simp; omega
      clear hlt hy
      go_wp2_with fail
      clear c0 hy1 hy2
      go_region_law (first | (refine stepZ (o := ⟨some 37, _, _, _, _, _⟩) (by rfl) (.tmp 33) (.tmp 36) 22 (by rfl) w 3 k0 (.int .i64 0) 1 8 Tryz.underlying22 hk0 hx0 hx1 hx2 rfl hsz1 _ 0 [] (by rfl) _ (by repeat (first | exact own_lit _ (by simp) (by simp) | refine World.ownsRow.alloc ?_ _)) (by repeat (first | exact Grew.refl _ | assumption | refine Grew.setCell ?_ (by simp <;> omega) _ | refine Grew.alloc ?_ _ | refine Grew.drew ?_ | refine Grew.drewN ?_ _ | refine Grew.trans ?_ (by assumption))) _ k _ (by rfl) (HP.out _ (by repeat (first | exact Grew.refl _ | assumption | refine Grew.setCell ?_ (by simp <;> omega) _ | refine Grew.alloc ?_ _ | refine Grew.drew ?_ | refine Grew.drewN ?_ _ | refine Grew.trans ?_ (by assumption)))) HPL.out (one_cellsI _) hp63 hpb ?_; intro v1 w1 o1 g1 q1 z1; have O1 := Lib.hid o1; have G1 := Lib.hid g1; have X1 := Lib.hid q1; (try simp at z1); clear o1 g1 q1) | (refine stepZ (o := ⟨some 40, _, _, _, _, _⟩) (by rfl) (.tmp 37) (.tmp 39) 22 (by rfl) w 3 k0 (.int .i64 0) 1 8 Tryz.underlying22 hk0 hx0 hx1 hx2 rfl hsz1 _ (0 + k) ([] ++ (l.take k).flatMap oneI) (by rfl) _ (by repeat (first | exact O1.out | refine World.ownsRow.alloc ?_ _)) (by repeat (first | exact G1.out | refine Grew.alloc ?_ _ | refine Grew.drew ?_)) _ 1 [.int .i64 n] (by rfl) (by first | exact rd_lit _ rfl _ (by simp) | exact rd_block rfl (by decide) (by omega) (fun j u hu => by rcases j with _ | j <;> simp at hu; subst hu; exact X1.out _ _ (by simp) (by change some _ ≠ some _; simp))) (by simp) hone hq63 hqb ?_; intro v2 w2 o2 g2 q2 z2; have O2 := Lib.hid o2; have G2 := Lib.hid g2; clear o2 g2 q2 z2) | (refine stepZ (o := ⟨some 44, _, _, _, _, _⟩) (by rfl) (.tmp 40) (.tmp 43) 22 (by rfl) w 3 k0 (.int .i64 0) 1 8 Tryz.underlying22 hk0 hx0 hx1 hx2 rfl hsz1 _ (0 + k + 1) ([] ++ (l.take k).flatMap oneI ++ [.int .i64 n]) (by rfl) _ O2.out G2.out _ (l.length - k) _ (by rfl) (HS.out _ G2.out) HSL.out (one_cellsI _) hs63 hsb ?_; intro v3 w3 o3 g3 q3 z3; have O3 := Lib.hid o3; have G3 := Lib.hid g3; clear o3 g3 q3 z3))
      all_goals
        go_wp2_with fail
        go_ret
        exact ⟨_, rfl, ins_done O3.out, G3.out⟩
    · have hltz : ¬ (k : Int) < (l.length : Int) := by omega
      clear hge
      go_wp2_with fail
      go_region_law (first | (refine stepZ (o := ⟨some 37, _, _, _, _, _⟩) (by rfl) (.tmp 33) (.tmp 36) 22 (by rfl) w 3 k0 (.int .i64 0) 1 8 Tryz.underlying22 hk0 hx0 hx1 hx2 rfl hsz1 _ 0 [] (by rfl) _ (by repeat (first | exact own_lit _ (by simp) (by simp) | refine World.ownsRow.alloc ?_ _)) (by repeat (first | exact Grew.refl _ | assumption | refine Grew.setCell ?_ (by simp <;> omega) _ | refine Grew.alloc ?_ _ | refine Grew.drew ?_ | refine Grew.drewN ?_ _ | refine Grew.trans ?_ (by assumption))) _ k _ (by rfl) (HP.out _ (by repeat (first | exact Grew.refl _ | assumption | refine Grew.setCell ?_ (by simp <;> omega) _ | refine Grew.alloc ?_ _ | refine Grew.drew ?_ | refine Grew.drewN ?_ _ | refine Grew.trans ?_ (by assumption)))) HPL.out (one_cellsI _) hp63 hpb ?_; intro v1 w1 o1 g1 q1 z1; have O1 := Lib.hid o1; have G1 := Lib.hid g1; have X1 := Lib.hid q1; (try simp at z1); clear o1 g1 q1) | (refine stepZ (o := ⟨some 40, _, _, _, _, _⟩) (by rfl) (.tmp 37) (.tmp 39) 22 (by rfl) w 3 k0 (.int .i64 0) 1 8 Tryz.underlying22 hk0 hx0 hx1 hx2 rfl hsz1 _ (0 + k) ([] ++ (l.take k).flatMap oneI) (by rfl) _ (by repeat (first | exact O1.out | refine World.ownsRow.alloc ?_ _)) (by repeat (first | exact G1.out | refine Grew.alloc ?_ _ | refine Grew.drew ?_)) _ 1 [.int .i64 n] (by rfl) (by first | exact rd_lit _ rfl _ (by simp) | exact rd_block rfl (by decide) (by omega) (fun j u hu => by rcases j with _ | j <;> simp at hu; subst hu; exact X1.out _ _ (by simp) (by change some _ ≠ some _; simp))) (by simp) hone hq63 hqb ?_; intro v2 w2 o2 g2 q2 z2; have O2 := Lib.hid o2; have G2 := Lib.hid g2; clear o2 g2 q2 z2) | (refine stepZ (o := ⟨some 44, _, _, _, _, _⟩) (by rfl) (.tmp 40) (.tmp 43) 22 (by rfl) w 3 k0 (.int .i64 0) 1 8 Tryz.underlying22 hk0 hx0 hx1 hx2 rfl hsz1 _ (0 + k + 1) ([] ++ (l.take k).flatMap oneI ++ [.int .i64 n]) (by rfl) _ O2.out G2.out _ (l.length - k) _ (by rfl) (HS.out _ G2.out) HSL.out (one_cellsI _) hs63 hsb ?_; intro v3 w3 o3 g3 q3 z3; have O3 := Lib.hid o3; have G3 := Lib.hid g3; clear o3 g3 q3 z3))
      all_goals
        go_wp2_with fail
        go_ret
        exact ⟨_, rfl, ins_done O3.out, G3.out⟩
end Go.Proofs.YtjaknioojpgkiaaGreatDoor
