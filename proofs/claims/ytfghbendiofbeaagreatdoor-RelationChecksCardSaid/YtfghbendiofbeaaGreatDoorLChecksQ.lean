/- The statement on the faults and the text of relations, walked: it returns true at every input and changes no block that lay before. The condition: the library's own variables hold what they must. -/
import Derived.Test.YtfghbendiofbeaaGreatDoorQ27
import Derived.Test.YtfghbendiofbeaaGreatDoorQ29
namespace Go.Proofs.YtfghbendiofbeaaGreatDoor
open Go.RowKit

set_option maxHeartbeats 8000000 in
set_option maxRecDepth 100000 in
theorem rchecks_walk (a : List Auth) (l : List Rel) (x : Rel) (av lv : Value) (w : World) (hE : Env w) (ha : SlAu w av a) (hl : SlR w lv l) :
    Calls Tryz.prog 3 #[av, lv, x.agg] w (YesG w) := by
  have KF := Lib.hid (fun W (hW : Grew w W) => few26_any a l av lv W (ha.mono hW) (hl.mono hW))
  have HE := Lib.hid hE
  have HA := Lib.hid ha
  have HL := Lib.hid hl
  have kT := fun W (hW : Grew w W) => rText x W (hE.mono hW)
  have kT2 := fun W => refText x W
  obtain ⟨A1, c1, rfl, -, -, -⟩ := hl.open_
  obtain ⟨A2, c2, rfl, -, -, -⟩ := ha.open_
  generalize textF x = T at kT kT2
  obtain ⟨ts, te⟩ := T
  obtain ⟨xu, xr, xa, xf, xn⟩ := x
  unfold Rel.agg at kT kT2 ⊢
  dsimp only at kT kT2 ⊢
  have KT := Lib.hid kT
  have KT2 := Lib.hid kT2
  clear hE ha hl kT kT2
  go_enter Tryz.func3, Tryz.ntmps3
  go_wp2_with fail
  refine (awake26 _ (HE.out.mono ((Grew.refl w).alloc _))).mono ?_
  rintro e w1 ⟨rfl, g1⟩
  have B1 := Lib.hid g1
  have G1 := Lib.hid (((Grew.refl w).alloc _).trans g1)
  clear g1
  dsimp only
  go_wp2_with fail
  refine (KF.out _ G1.out).mono ?_
  rintro e w2 ⟨q, rfl, hq, g2⟩
  have B2 := Lib.hid (B1.out.trans g2)
  have G2 := Lib.hid (G1.out.trans g2)
  have HQ := Lib.hid hq
  clear g2 hq
  dsimp only
  cases q
  case false =>
    go_wp2_with fail
    refine (awake26 _ (HE.out.mono G2.out)).mono ?_
    rintro e w3 ⟨rfl, g3⟩
    dsimp only
    go_wp2
    go_ret
    exact ⟨rfl, G2.out.trans g3⟩
  obtain ⟨hfa, hll⟩ := HQ.out (by first | rfl | trivial)
  have HFA := Lib.hid hfa
  clear hfa HQ
  go_wp2_with fail
  refine (copyG a _ _ (HA.out.mono G2.out) HFA.out).mono ?_
  rintro e w3 ⟨v3, rfl, s3, g3⟩
  have B3 := Lib.hid (B2.out.trans g3)
  have G3 := Lib.hid (G2.out.trans g3)
  have S3 := Lib.hid s3
  clear s3 g3
  dsimp only
  go_wp2_with fail
  refine (cloneG l _ _ (HL.out.mono G3.out) hll).mono ?_
  rintro e w4 ⟨v4, rfl, s4, g4⟩
  have B4 := Lib.hid (B3.out.trans g4)
  have G4 := Lib.hid (G3.out.trans g4)
  have S3' := Lib.hid (S3.out.mono g4)
  have S4 := Lib.hid s4
  clear s4 g4 S3
  dsimp only
  have kC := rCheck a l v3 v4 w4 (HE.out.mono G4.out) S3'.out HFA.out.au S4.out
  have kC2 := fun W (hW : Grew w W) => refCheck26 a l _ _ W (HA.out.mono hW) (HL.out.mono hW)
  generalize relCheck a l = H at kC kC2
  obtain ⟨ci, ce⟩ := H
  dsimp only at kC kC2
  have KC := Lib.hid kC
  have KC2 := Lib.hid kC2
  clear kC kC2
  go_wp2_with fail
  refine KC.out.mono ?_
  rintro e w5 ⟨rfl, g5⟩
  have B5 := Lib.hid (B4.out.trans g5)
  have G5 := Lib.hid (G4.out.trans g5)
  clear g5 S3' S4 KC
  dsimp only
  go_wp2_with fail
  refine (KC2.out _ G5.out).mono ?_
  rintro e w6 ⟨rfl, g6⟩
  have B6 := Lib.hid (B5.out.trans g6)
  have G6 := Lib.hid (G5.out.trans g6)
  clear g6
  have b0 := new_cell B6.out 0 _ rfl
  have b1 := new_cell B6.out 1 _ rfl
  have b2 := new_cell B6.out 2 _ rfl
  have b3 := new_cell B6.out 3 _ rfl
  have b4 := new_cell B6.out 4 _ rfl
  dsimp only
  go_wp2_with fail
  refine (KT.out _ G6.out).mono ?_
  rintro e w7 ⟨rfl, g7⟩
  have d0 := keep_cell g7 b0
  have d1 := keep_cell g7 b1
  have d2 := keep_cell g7 b2
  have d3 := keep_cell g7 b3
  have d4 := keep_cell g7 b4
  have G7 := Lib.hid (G6.out.trans g7)
  clear g7 b0 b1 b2 b3 b4
  dsimp only
  go_wp2_with fail
  refine (KT2.out _).mono ?_
  rintro e w8 ⟨rfl, g8⟩
  have G8 := Lib.hid (G7.out.trans g8)
  clear g8 d0 d1 d2 d3 d4
  dsimp only
  go_wp2
  go_ret
  exact ⟨by simp, G8.out⟩
end Go.Proofs.YtfghbendiofbeaaGreatDoor
