/- Lemmas on what the functions of the program and of the library compute: En. The conditions stand at each. -/
import Derived.Test.YtfghbendiofbeaaGreatDoorQ20
import Derived.Test.YtfghbendiofbeaaGreatDoorQ21
/- relation.End, walked. The conditions: the library's own variables hold what they must; the lists are short. -/
namespace Go.Proofs.YtfghbendiofbeaaGreatDoor
open Go.RowKit

theorem hit_iff {l : List Rel} (x : Rel) (k : Nat) (hne : hitB (fun y => decide (orderR y x = 0)) l k = false) : l[k]? ≠ some x := by
  intro h
  unfold hitB at hne
  rw [h] at hne
  simp only [decide_eq_false_iff_not] at hne
  exact hne ((orderR_eq x x).2 ⟨rfl, rfl, rfl, rfl⟩)
theorem hit_lt {α : Type} {q : α → Bool} {l : List α} {k : Nat} (h : hitB q l k = true) : k < l.length := by
  unfold hitB at h
  cases hk : l[k]? with
  | none => rw [hk] at h; cases h
  | some y => exact (List.getElem?_eq_some_iff.1 hk).1
theorem flat_cut (x : Rel) (day : Int) : ∀ (l : List Rel) (k : Nat), l[k]? = some x → (l.flatMap Rel.cells).set (k * 5 + 3 + 1) (.int .i64 day) = (l.set k (cutR x day)).flatMap Rel.cells
  | [], k, h => by simp at h
  | y :: r, 0, h => by
    simp only [List.getElem?_cons_zero, Option.some.injEq] at h
    subst h
    simp [Rel.cells, cutR]
  | y :: r, k + 1, h => by
    have ih := flat_cut x day r k (by simpa using h)
    rw [show (k + 1) * 5 + 3 + 1 = k * 5 + 3 + 1 + 1 + 1 + 1 + 1 + 1 by omega]
    simp only [List.flatMap_cons, List.set_cons_succ, Rel.cells, List.cons_append, List.nil_append]
    rw [← ih]
set_option maxHeartbeats 8000000 in
set_option maxRecDepth 100000 in
theorem rEnd (a : List Auth) (l : List Rel) (x : Rel) (day : Int) (av lv : Value) (w : World) (hE : Env w) (ha : SlAu w av a) (hf : FewAu a) (hl : SlR w lv l) (hll : l.length ≤ 1000000) :
    Calls Tryz.prog 21 #[av, lv, x.agg, .int .i64 day] w (RetRel (endR a l x day) w) := by
  have kA := fun W (hW : Grew w W) => rAsks a l av lv W (hE.mono hW) (ha.mono hW) hf (hl.mono hW)
  have kF : asksF a l = 0 → ∀ W, Grew w W → _ := fun h W (hW : Grew w W) => rFind l x lv W (hl.mono hW) hll (asks_right.1 h).2.2.2.1
  have kC := fun W (hW : Grew w W) => cloneR l lv W (hl.mono hW) (by omega)
  have hbox := BoxR.new w x 27
  change asksF a l = 0 → ∀ W, Grew w W → Calls Tryz.prog 56 #[lv, x.agg] W fun e w' => e = .returned (.tuple #[.int .i64 (placeR l x), .bool (hitB (fun y => decide (orderR y x = 0)) l (placeR l x))]) ∧ Grew W w' at kF
  have hHit := hit_iff x (l := l) (placeR l x)
  have hLt := hit_lt (q := fun y => decide (orderR y x = 0)) (l := l) (k := placeR l x)
  unfold endR
  generalize hitB (fun y => decide (orderR y x = 0)) l (placeR l x) = hb at kF hHit hLt
  generalize asksF a l = q0 at kA kF ⊢
  generalize placeR l x = P0 at kF hHit hLt ⊢
  have KA := Lib.hid kA
  have KC := Lib.hid kC
  obtain ⟨A1, c1, rfl, hlc, hc1, hr⟩ := hl.open_
  have HR := Lib.hid hr
  have HLT := Lib.hid hLt
  have HHit := Lib.hid hHit
  unfold Rel.cells at hbox
  unfold Rel.agg at kF ⊢
  have HB := Lib.hid hbox
  have KF := Lib.hid kF
  clear kA kF kC hbox hE ha hf hl hr hLt hHit
  by_cases h0 : q0 = 0
  case neg =>
    have hz : (q0 != 0) = true := by simpa using h0
    rw [if_pos h0]
    clear h0
    go_enter Tryz.func21, Tryz.ntmps21
    go_wp2_with fail
    refine (KA.out _ ((Grew.refl w).alloc _)).mono ?_
    rintro e w1 ⟨rfl, g1⟩
    dsimp only
    go_wp2
    go_ret2
    exact ⟨_, rfl, SlR.nil _, ((Grew.refl w).alloc _).trans g1, Fresh.nil _ _ _⟩
  subst h0
  simp only [ne_eq, not_true_eq_false, if_false]
  cases hb
  · have hn := HHit.out (by first | rfl | trivial)
    have hn' : ¬ (l[P0]? = some x) := hn
    rw [if_pos hn']
    clear hn hn'
    go_enter Tryz.func21, Tryz.ntmps21
    go_wp2_with fail
    refine (KA.out _ ((Grew.refl w).alloc _)).mono ?_
    rintro e w1 ⟨rfl, g1⟩
    obtain ⟨b0, b1, b2, b3, b4⟩ := HB.out.mono g1
    have G1 := Lib.hid (((Grew.refl w).alloc _).trans g1)
    clear g1
    dsimp only
    go_wp2_with fail
    refine (KF.out (by first | rfl | trivial) _ G1.out).mono ?_
    rintro e w2 ⟨rfl, g2⟩
    have G2 := Lib.hid (G1.out.trans g2)
    clear g2
    dsimp only
    go_wp2
    go_quiet (fail)
    go_wp2
    go_ret2
    exact ⟨_, rfl, SlR.nil _, (by repeat (first | exact G2.out | refine Grew.drewN ?_ _ | refine Grew.drew ?_)), Fresh.nil _ _ _⟩
  have hlt : P0 < l.length := HLT.out (by first | rfl | trivial)
  rw [List.getElem?_eq_getElem hlt]
  obtain ⟨bk, off, rfl, hbk, hcell⟩ := HR.out (by omega)
  have HCell := Lib.hid (fun W (hW : Grew w W) => hcell W hW P0 hlt)
  have HEQ := Lib.hid (fun h => List.getElem?_eq_some_iff.2 ⟨hlt, h⟩ : l[P0] = x → l[P0]? = some x)
  have hN := relNeq
  clear hcell HR HLT HHit
  generalize l[P0] = y at HCell HEQ ⊢
  obtain ⟨yu, yr, ya, yf, yn⟩ := y
  obtain ⟨xu, xr, xa, xf, xn⟩ := x
  have hkz : (P0 : Int) < (l.length : Int) := by omega
  have h0z : (0 : Int) ≤ (P0 : Int) := by omega
  have kN := fun w => relNeq yu yr ya yf yn xu xr xa xf xn w
  have kI := fun w => relIn ⟨yu, yr, ya, yf, yn⟩ ⟨xu, xr, xa, xf, xn⟩ w
  unfold Rel.agg at kI
  dsimp only at HCell kI KF HB ⊢
  clear hN
  by_cases heq : (⟨yu, yr, ya, yf, yn⟩ : Rel) = ⟨xu, xr, xa, xf, xn⟩
  case neg =>
    rw [if_pos (by simpa using heq)]
    rw [decide_eq_false heq] at kI
    simp only [decide_eq_false heq] at kN
    clear heq
    go_enter Tryz.func21, Tryz.ntmps21
    go_wp2_with fail
    refine (KA.out _ ((Grew.refl w).alloc _)).mono ?_
    rintro e w1 ⟨rfl, g1⟩
    obtain ⟨b0, b1, b2, b3, b4⟩ := HB.out.mono g1
    have HB1 := Lib.hid (HB.out.mono g1)
    have G1 := Lib.hid (((Grew.refl w).alloc _).trans g1)
    clear g1
    dsimp only
    dsimp only at b0 b1 b2 b3 b4
    go_wp2_with fail
    refine (KF.out (by first | rfl | trivial) _ G1.out).mono ?_
    rintro e w2 ⟨rfl, g2⟩
    have G2 := Lib.hid (G1.out.trans g2)
    have HB2 := Lib.hid (HB1.out.mono g2)
    clear g2 b0 b1 b2 b3 b4
    obtain ⟨b0, b1, b2, b3, b4⟩ := HB2.out
    obtain ⟨c0, c1, c2, c3, c4⟩ := HCell.out w2 G2.out
    dsimp only
    dsimp only at b0 b1 b2 b3 b4
    go_wp2
    go_quiet (fail)
    go_wp2
    go_ret2
    exact ⟨_, rfl, SlR.nil _, (by repeat (first | exact G2.out | refine Grew.drewN ?_ _ | refine Grew.drew ?_)), Fresh.nil _ _ _⟩
  have hE5 : yu = xu ∧ yr = xr ∧ ya = xa ∧ yf = xf ∧ yn = xn := by simpa using heq
  obtain ⟨rfl, rfl, rfl, rfl, rfl⟩ := hE5
  have HL := Lib.hid (HEQ.out rfl)
  simp only [decide_true] at kI kN
  rw [if_neg (by simp)]
  clear heq HEQ
  by_cases h4 : day ≤ yf ∨ yn < day
  · rw [if_pos h4]
    have HD : RowKit.Hid (day ≤ yf ∨ yn < day) := h4
    clear h4
    cases a1 : decide (day ≤ yf) <;> cases a2 : decide (yn < day)
    · exfalso
      have := HD.out
      simp at a1 a2
      omega
    all_goals
      go_enter Tryz.func21, Tryz.ntmps21
      go_wp2_with fail
      refine (KA.out _ ((Grew.refl w).alloc _)).mono ?_
      rintro e w1 ⟨rfl, g1⟩
      obtain ⟨b0, b1, b2, b3, b4⟩ := HB.out.mono g1
      have HB1 := Lib.hid (HB.out.mono g1)
      have G1 := Lib.hid (((Grew.refl w).alloc _).trans g1)
      clear g1
      dsimp only
      dsimp only at b0 b1 b2 b3 b4
      go_wp2_with fail
      refine (KF.out (by first | rfl | trivial) _ G1.out).mono ?_
      rintro e w2 ⟨rfl, g2⟩
      have G2 := Lib.hid (G1.out.trans g2)
      have HB2 := Lib.hid (HB1.out.mono g2)
      clear g2 b0 b1 b2 b3 b4
      obtain ⟨b0, b1, b2, b3, b4⟩ := HB2.out
      obtain ⟨c0, c1, c2, c3, c4⟩ := HCell.out w2 G2.out
      dsimp only
      dsimp only at b0 b1 b2 b3 b4
      go_wp2
      go_quiet (fail)
      go_wp2
      go_ret2
      exact ⟨_, rfl, SlR.nil _, (by repeat (first | exact G2.out | refine Grew.drewN ?_ _ | refine Grew.drew ?_)), Fresh.nil _ _ _⟩
  · rw [if_neg h4]
    have a1 : decide (day ≤ yf) = false := by simp; omega
    have a2 : decide (yn < day) = false := by simp; omega
    clear h4
    go_enter Tryz.func21, Tryz.ntmps21
    go_wp2_with fail
    refine (KA.out _ ((Grew.refl w).alloc _)).mono ?_
    rintro e w1 ⟨rfl, g1⟩
    obtain ⟨b0, b1, b2, b3, b4⟩ := HB.out.mono g1
    have HB1 := Lib.hid (HB.out.mono g1)
    have G1 := Lib.hid (((Grew.refl w).alloc _).trans g1)
    clear g1
    dsimp only
    dsimp only at b0 b1 b2 b3 b4
    go_wp2_with fail
    refine (KF.out (by first | rfl | trivial) _ G1.out).mono ?_
    rintro e w2 ⟨rfl, g2⟩
    have G2 := Lib.hid (G1.out.trans g2)
    have HB2 := Lib.hid (HB1.out.mono g2)
    clear g2 b0 b1 b2 b3 b4
    obtain ⟨b0, b1, b2, b3, b4⟩ := HB2.out
    obtain ⟨c0, c1, c2, c3, c4⟩ := HCell.out w2 G2.out
    dsimp only
    dsimp only at b0 b1 b2 b3 b4
    go_wp2
    go_quiet (fail)
    go_wp2_with fail
    refine (KC.out _ (by repeat (first | exact G2.out | refine Grew.drewN ?_ _ | refine Grew.drew ?_))).mono ?_
    rintro e w6 ⟨v6, rfl, ho6, g6⟩
    have G6 := Lib.hid (Grew.trans (show Grew w _ from by repeat (first | exact G2.out | refine Grew.drewN ?_ _ | refine Grew.drew ?_)) g6)
    obtain ⟨gk, cap, rfl, hbg, hgl, hcap⟩ := own_form ho6 (by omega)
    have hcm := own_max ho6
    obtain ⟨uu, _, hcw⟩ := own_cell ho6 (P0 * 5 + 3 + 1) (by omega)
    have hfz := ho6.frozenAt (P0 * 5 + 3 + 1)
    have HO6 := Lib.hid ho6
    have hwg : w.heap.size ≤ gk := Nat.le_trans (show w.heap.size ≤ _ from (show Grew w w2.drew from G2.out.drew).size) (by simpa using hbg)
    clear ho6 g6 hbg
    dsimp only
    go_wp2
    go_ret2
    refine ⟨_, rfl, ?_, G6.out.setCell hwg _, Fresh.at_ hwg⟩
    have hfin := Rd.of_own (HO6.out.stored (P0 * 5 + 3 + 1) (.int .i64 day)).1
    rw [flat_cut _ day l P0 HL.out] at hfin
    exact hfin
end Go.Proofs.YtfghbendiofbeaaGreatDoor
