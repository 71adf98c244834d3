/- The statement on Check, Get and Of, walked: it returns true at every input and changes no block that lay before. No condition. -/
import Derived.Test.YtiikniopjcnphaaGreatDoorE9
import Derived.Test.YtiikniopjcnphaaGreatDoorR3
import Derived.Test.YtiikniopjcnphaaGreatDoorR5
import Derived.Test.YtiikniopjcnphaaGreatDoorR6
namespace Go.Proofs.YtiikniopjcnphaaGreatDoor
open Go.RowKit

set_option maxRecDepth 100000 in
set_option maxHeartbeats 4000000 in
theorem checks_walk (l : List ByteArray) (vs : List Val) (unit n : Int) (lang : ByteArray) (lv vv : Value) (w : World) (hl : SlS w lv l) (hv : SlV w vv vs) :
    Calls Tryz.prog 3 #[lv, vv, .int .i64 unit, .int .i64 n, .string lang] w fun e w' => e = .returned (.bool true) ∧ Grew w w' := by
  have HL := Lib.hid hl
  have HV := Lib.hid hv
  clear hl hv
  go_enter Tryz.func3, Tryz.ntmps3
  go_wp2_with fail
  refine (awake_any _).mono ?_
  rintro e w1 ⟨rfl, g1⟩
  dsimp only
  go_wp2_with fail
  refine (few_any l vs lv vv _ (HL.out.mono g1) (HV.out.mono g1)).mono ?_
  rintro e w2 ⟨h, rfl⟩
  rcases h with rfl | ⟨rfl, h10, h1025⟩
  · dsimp only
    go_wp2_with fail
    refine (awake_any _).mono ?_
    rintro e w3 ⟨rfl, g3⟩
    dsimp only
    go_wp2_with fail
    go_ret
    exact ⟨rfl, g1.trans g3⟩
  by_cases hw : 20 < lang.size
  · have hs2 : ((20 : Int) < (lang.size : Int)) := by omega
    dsimp only
    go_wp2_with fail
    refine (awake_any _).mono ?_
    rintro e w3 ⟨rfl, g3⟩
    dsimp only
    go_wp2_with fail
    go_ret
    exact ⟨rfl, g1.trans g3⟩
  have hs2 : decide ((20 : Int) < (lang.size : Int)) = false := by simp; omega
  have HG1 := Lib.hid g1
  clear g1 hw
  dsimp only
  go_wp2_with fail
  refine (cloneS l lv _ (HL.out.mono HG1.out) (by omega)).mono ?_
  rintro e w3 ⟨v3, rfl, ho3, g3⟩
  have HO3 := Lib.hid (Rd.of_own ho3)
  have HG3 := Lib.hid (HG1.out.trans g3)
  clear ho3 g3 HG1
  dsimp only
  go_wp2_with fail
  refine (cloneV vs _ _ (HV.out.mono HG3.out) (by omega)).mono ?_
  rintro e w4 ⟨v4, rfl, ho4, g4⟩
  have HO4 := Lib.hid (Rd.of_own ho4)
  have HO34 := Lib.hid (Rd.mono HO3.out g4)
  have HG4 := Lib.hid (HG3.out.trans g4)
  clear ho4 g4 HG3 HO3
  have kC := check_any l vs v3 v4 w4 HO34.out HO4.out
  have kD := fun W (hW : Grew w W) => refCheck_any l vs lv vv W (HL.out.mono hW) (HV.out.mono hW)
  generalize checkF l vs = R at kC kD
  obtain ⟨ci, ce⟩ := R
  dsimp only at kC kD
  have KC := Lib.hid kC
  have KD := Lib.hid kD
  clear kC kD
  dsimp only
  go_wp2_with fail
  refine KC.out.mono ?_
  rintro e w5 ⟨rfl, g5⟩
  have HG5 := Lib.hid (HG4.out.trans g5)
  clear g5 HG4 HO4 HO34 KC
  dsimp only
  go_wp2_with fail
  refine (KD.out _ HG5.out).mono ?_
  rintro e w6 ⟨rfl, g6⟩
  have HG6 := Lib.hid (HG5.out.trans g6)
  clear g6 HG5 KD
  dsimp only
  go_wp2_with fail
  refine (cloneV vs _ _ (HV.out.mono HG6.out) (by omega)).mono ?_
  rintro e w7 ⟨v7, rfl, ho7, g7⟩
  have HO7 := Lib.hid (Rd.of_own ho7)
  have HG7 := Lib.hid (HG6.out.trans g7)
  clear ho7 g7 HG6
  have kG := get_any vs unit n lang v7 w7 HO7.out
  have kH := fun W (hW : Grew w W) => refGet_any vs unit n lang vv W (HV.out.mono hW)
  generalize optS (getF vs unit n lang) = gs at kG kH
  generalize (getF vs unit n lang).isSome = gb at kG kH
  have KG := Lib.hid kG
  have KH := Lib.hid kH
  clear kG kH
  dsimp only
  go_wp2_with fail
  refine KG.out.mono ?_
  rintro e w8 ⟨rfl, g8⟩
  have HG8 := Lib.hid (HG7.out.trans g8)
  clear g8 HG7 HO7 KG
  dsimp only
  go_wp2_with fail
  refine (KH.out _ HG8.out).mono ?_
  rintro e w9 ⟨rfl, g9⟩
  have HG9 := Lib.hid (HG8.out.trans g9)
  clear g9 HG8 KH
  dsimp only
  have t1 : (ci == ci) = true := by simp
  have t2 : (ce == ce) = true := by simp
  have t3 : (gs.toList == gs.toList) = true := by simp
  have t4 : (gb == gb) = true := by simp
  go_wp2_with fail
  refine (cloneV vs _ _ (HV.out.mono HG9.out) (by omega)).mono ?_
  rintro e w10 ⟨v10, rfl, ho10, g10⟩
  have HO10 := Lib.hid (Rd.of_own ho10)
  have HG10 := Lib.hid (HG9.out.trans g10)
  clear ho10 g10 HG9
  have kO := of_vals vs unit v10 w10 HO10.out (by omega)
  have kP := fun W (hW : Grew w W) => refOf_vals vs unit vv W (HV.out.mono hW) (by omega)
  generalize ofF vs unit = o at kO kP
  have KO := Lib.hid kO
  have KP := Lib.hid kP
  clear kO kP
  dsimp only
  go_wp2_with fail
  refine KO.out.mono ?_
  rintro e w11 ⟨v11, rfl, ho11, g11⟩
  have HO11 := Lib.hid (Rd.of_own ho11)
  have HG11 := Lib.hid (HG10.out.trans g11)
  clear ho11 g11 HG10 HO10 KO
  dsimp only
  go_wp2_with fail
  refine (KP.out _ HG11.out).mono ?_
  rintro e w12 ⟨v12, rfl, ho12, g12⟩
  have HO12 := Lib.hid (Rd.of_own ho12)
  have HO112 := Lib.hid (Rd.mono HO11.out g12)
  have HG12 := Lib.hid (HG11.out.trans g12)
  clear ho12 g12 HG11 HO11 KP
  dsimp only
  go_wp2_with fail
  refine (refSame_any o o _ _ _ HO112.out HO12.out).mono ?_
  rintro e w13 ⟨rfl, g13⟩
  simp only [decide_true]
  go_wp2_with fail
  go_ret
  exact ⟨rfl, HG12.out.trans g13⟩
end Go.Proofs.YtiikniopjcnphaaGreatDoor
