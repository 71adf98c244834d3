/- The statement on what is asked of relations, walked: it returns true at every input and changes no block that lay before. The condition: the library's own variables hold what they must. -/
import Derived.Test.YtfghbendiofbeaaGreatDoorQ27
import Derived.Test.YtfghbendiofbeaaGreatDoorQ29
import Derived.Test.YtfghbendiofbeaaGreatDoorQ11
namespace Go.Proofs.YtfghbendiofbeaaGreatDoor
open Go.RowKit

theorem sameI (l : List Int) (v u : Value) (w : World) (hv : SlI w v l) (hu : SlI w u l) : Calls Tryz.prog 28 #[v, u] w fun e w' => e = .returned (.bool true) ∧ Grew w w' := by
  have := equalI l l v u w hv hu
  rw [decide_eq_true rfl] at this
  exact this
set_option maxHeartbeats 8000000 in
set_option maxRecDepth 100000 in
theorem asks_walk (a : List Auth) (l : List Rel) (unit role id day : Int) (av lv : Value) (w : World) (hE : Env w) (ha : SlAu w av a) (hl : SlR w lv l) :
    Calls Tryz.prog 5 #[av, lv, .int .i64 unit, .int .i64 role, .int .i64 id, .int .i64 day] w (YesG w) := by
  have KF := Lib.hid (fun W (hW : Grew w W) => few26_any a l av lv W (ha.mono hW) (hl.mono hW))
  have HE := Lib.hid hE
  have HA := Lib.hid ha
  have HL := Lib.hid hl
  obtain ⟨A1, c1, rfl, -, -, -⟩ := hl.open_
  obtain ⟨A2, c2, rfl, -, -, -⟩ := ha.open_
  clear hE ha hl
  go_enter Tryz.func5, Tryz.ntmps5
  go_wp2_with fail
  refine (awake26 _ HE.out).mono ?_
  rintro e w1 ⟨rfl, g1⟩
  have G1 := Lib.hid g1
  clear g1
  dsimp only
  go_wp2_with fail
  refine (KF.out _ G1.out).mono ?_
  rintro e w2 ⟨q, rfl, hq, g2⟩
  have G2 := Lib.hid (G1.out.trans g2)
  have HQ := Lib.hid hq
  clear g2 hq
  dsimp only
  cases q
  case false =>
    go_wp2_with fail
    refine (awake26 _ (HE.out.mono G2.out)).mono ?_
    rintro e w3 ⟨rfl, g3⟩
    dsimp only
    go_wp2
    go_ret
    exact ⟨rfl, G2.out.trans g3⟩
  obtain ⟨hfa, hll⟩ := HQ.out (by first | rfl | trivial)
  have HFA := Lib.hid hfa
  clear hfa HQ
  go_wp2_with fail
  refine (copyG a _ _ (HA.out.mono G2.out) HFA.out).mono ?_
  rintro e w3 ⟨v3, rfl, s3, g3⟩
  have G3 := Lib.hid (G2.out.trans g3)
  have S3 := Lib.hid s3
  clear s3 g3
  dsimp only
  go_wp2_with fail
  refine (cloneG l _ _ (HL.out.mono G3.out) hll).mono ?_
  rintro e w4 ⟨v4, rfl, s4, g4⟩
  have G4 := Lib.hid (G3.out.trans g4)
  have S3' := Lib.hid (S3.out.mono g4)
  have S4 := Lib.hid s4
  clear s4 g4 S3
  dsimp only
  have kH := rHolders a l unit role day v3 v4 w4 (HE.out.mono G4.out) S3'.out HFA.out.au S4.out (by omega)
  have kH2 := fun W (hW : Grew w W) => refHolders a l unit role day _ _ W (HA.out.mono hW) (HL.out.mono hW) (by omega)
  have kU2 := fun W (hW : Grew w W) => refUnits a l id day _ _ W (HA.out.mono hW) (HL.out.mono hW) (by omega)
  have HU := Lib.hid (fun v3 v4 w4 h1 h2 h3 => rUnits a l id day v3 v4 w4 h1 h2 HFA.out.au h3 (by omega))
  generalize holdersR a l unit role day = H at kH kH2
  obtain ⟨hs, he⟩ := H
  generalize unitsF a l id day = U at HU kU2
  obtain ⟨us, ue⟩ := U
  have KH := Lib.hid kH
  have KH2 := Lib.hid kH2
  have KU2 := Lib.hid kU2
  clear kH kH2 kU2
  go_wp2_with fail
  refine KH.out.mono ?_
  rintro e w5 ⟨v5, rfl, s5, g5⟩
  dsimp only at s5
  have G5 := Lib.hid (G4.out.trans g5)
  have S5 := Lib.hid s5
  clear g5 s5 S3' S4 KH
  dsimp only
  go_wp2_with fail
  refine (KH2.out _ G5.out).mono ?_
  rintro e w6 ⟨v6, rfl, s6, g6⟩
  dsimp only at s6
  have G6 := Lib.hid (G5.out.trans g6)
  have S5' := Lib.hid (S5.out.mono g6)
  have S6 := Lib.hid s6
  clear g6 s6 S5
  dsimp only
  go_wp2_with fail
  refine (copyG a _ _ (HA.out.mono G6.out) HFA.out).mono ?_
  rintro e w7 ⟨v7, rfl, s7, g7⟩
  have G7 := Lib.hid (G6.out.trans g7)
  have G67 := Lib.hid g7
  have S7 := Lib.hid s7
  clear s7 g7
  dsimp only
  go_wp2_with fail
  refine (cloneG l _ _ (HL.out.mono G7.out) hll).mono ?_
  rintro e w8 ⟨v8, rfl, s8, g8⟩
  have G8 := Lib.hid (G7.out.trans g8)
  have G68 := Lib.hid (G67.out.trans g8)
  have S7' := Lib.hid (S7.out.mono g8)
  have S8 := Lib.hid s8
  clear s8 g8 S7
  dsimp only
  go_wp2_with fail
  refine (HU.out v7 v8 w8 (HE.out.mono G8.out) S7'.out S8.out).mono ?_
  rintro e w9 ⟨v9, rfl, s9, g9⟩
  dsimp only at s9
  have G9 := Lib.hid (G8.out.trans g9)
  have G69 := Lib.hid (G68.out.trans g9)
  have S9 := Lib.hid s9
  clear s9 g9 S7' S8
  dsimp only
  go_wp2_with fail
  refine (KU2.out _ G9.out).mono ?_
  rintro e w10 ⟨v10, rfl, s10, g10⟩
  dsimp only at s10
  have GA := Lib.hid (G9.out.trans g10)
  have G6A := Lib.hid (G69.out.trans g10)
  have S9' := Lib.hid (S9.out.mono g10)
  have S10 := Lib.hid s10
  clear s10 g10 S9
  dsimp only
  go_wp2_with fail
  refine (sameI hs _ _ _ (S5'.out.mono G6A.out) (S6.out.mono G6A.out)).mono ?_
  rintro e w11 ⟨rfl, g11⟩
  have GB := Lib.hid (GA.out.trans g11)
  have SA := Lib.hid (S9'.out.mono g11)
  have SB := Lib.hid (S10.out.mono g11)
  clear g11
  dsimp only
  go_wp2_with fail
  refine (sameI us _ _ _ SA.out SB.out).mono ?_
  rintro e w12 ⟨rfl, g12⟩
  dsimp only
  go_wp2
  go_ret
  exact ⟨by simp, GB.out.trans g12⟩
end Go.Proofs.YtfghbendiofbeaaGreatDoor
