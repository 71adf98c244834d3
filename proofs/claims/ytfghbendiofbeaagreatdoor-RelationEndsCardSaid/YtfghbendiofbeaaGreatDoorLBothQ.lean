/- The statement on holders and units, walked: it returns true at every input and changes no block that lay before. The condition: the library's own variables hold what they must. -/
import Derived.Test.YtfghbendiofbeaaGreatDoorQ24
import Derived.Test.YtfghbendiofbeaaGreatDoorQ26
import Derived.Test.YtfghbendiofbeaaGreatDoorQ27
import Derived.Test.YtfghbendiofbeaaGreatDoorQ16
namespace Go.Proofs.YtfghbendiofbeaaGreatDoor
open Go.RowKit

def YesG (w : World) (e : Ending) (w' : World) : Prop := e = .returned (.bool true) ∧ Grew w w'
/-- The copies that are handed to the program. -/
def CopyEnd (l : List Auth) (w : World) (e : Ending) (w' : World) : Prop := ∃ v, e = .returned v ∧ SlAu w' v l ∧ Grew w w'
theorem copyG (l : List Auth) (v : Value) (w : World) (hv : SlAu w v l) (hf : FewA l) : Calls Tryz.prog 14 #[v] w (CopyEnd l w) := copy23 l v w hv hf.au (by have := hf.1; omega)
def CloneEnd (l : List Rel) (w : World) (e : Ending) (w' : World) : Prop := ∃ v, e = .returned v ∧ SlR w' v l ∧ Grew w w'
theorem cloneG (l : List Rel) (v : Value) (w : World) (hv : SlR w v l) (hf : l.length ≤ 257) : Calls Tryz.prog 15 #[v] w (CloneEnd l w) :=
  (cloneR l v w hv (by omega)).mono fun _ _ ⟨v', he, ho, hg⟩ => ⟨v', he, Rd.of_own ho, hg⟩
set_option maxHeartbeats 8000000 in
set_option maxRecDepth 100000 in
theorem both_walk (a : List Auth) (l : List Rel) (unit id day : Int) (av lv : Value) (w : World) (hE : Env w) (ha : SlAu w av a) (hl : SlR w lv l) :
    Calls Tryz.prog 9 #[av, lv, .int .i64 unit, .int .i64 id, .int .i64 day] w (YesG w) := by
  have KF := Lib.hid (fun W (hW : Grew w W) => few26_any a l av lv W (ha.mono hW) (hl.mono hW))
  have HE := Lib.hid hE
  have HA := Lib.hid ha
  have HL := Lib.hid hl
  clear hE ha hl
  go_enter Tryz.func9, Tryz.ntmps9
  go_wp2_with fail
  refine (awake26 _ HE.out).mono ?_
  rintro e w1 ⟨rfl, g1⟩
  have G1 := Lib.hid g1
  clear g1
  dsimp only
  go_wp2_with fail
  refine (KF.out _ G1.out).mono ?_
  rintro e w2 ⟨q, rfl, hq, g2⟩
  have G2 := Lib.hid (G1.out.trans g2)
  have HQ := Lib.hid hq
  clear g2 hq
  dsimp only
  cases q
  case false =>
    go_wp2_with fail
    refine (awake26 _ (HE.out.mono G2.out)).mono ?_
    rintro e w3 ⟨rfl, g3⟩
    dsimp only
    go_wp2
    go_ret
    exact ⟨rfl, G2.out.trans g3⟩
  obtain ⟨hfa, hll⟩ := HQ.out (by first | rfl | trivial)
  have HFA := Lib.hid hfa
  clear hfa HQ
  go_wp2_with fail
  refine (copyG a av _ (HA.out.mono G2.out) HFA.out).mono ?_
  rintro e w3 ⟨v3, rfl, s3, g3⟩
  have G3 := Lib.hid (G2.out.trans g3)
  have S3 := Lib.hid s3
  clear s3 g3
  dsimp only
  go_wp2_with fail
  refine (cloneG l lv _ (HL.out.mono G3.out) hll).mono ?_
  rintro e w4 ⟨v4, rfl, s4, g4⟩
  have G4 := Lib.hid (G3.out.trans g4)
  have S3' := Lib.hid (S3.out.mono g4)
  have S4 := Lib.hid s4
  clear s4 g4 S3
  dsimp only
  have hok := @units_ok a l id day
  have hbad := @units_bad a l id day
  have kU := rUnits a l id day v3 v4 w4 (HE.out.mono G4.out) S3'.out HFA.out.au S4.out (by omega)
  generalize unitsF a l id day = U at kU hok hbad
  obtain ⟨us, ue⟩ := U
  dsimp only at kU hok hbad
  have KU := Lib.hid kU
  have HOK := Lib.hid hok
  have HBAD := Lib.hid hbad
  clear kU hok hbad
  go_wp2_with fail
  refine KU.out.mono ?_
  rintro e w5 ⟨v5, rfl, s5, g5⟩
  dsimp only at s5
  have G5 := Lib.hid (G4.out.trans g5)
  have S5 := Lib.hid s5
  clear g5 S3' S4 KU
  dsimp only
  by_cases hue : ue = 0
  case neg =>
    have hue' : (ue != 0) = true := by simpa using hue
    have hus := HBAD.out hue
    subst hus
    obtain ⟨A5, c5, rfl, -, -, -⟩ := s5.open_
    clear hue s5
    go_wp2
    go_ret
    exact ⟨rfl, G5.out⟩
  subst hue
  clear s5
  obtain ⟨hR, hd0, hd1, hUe⟩ := HOK.out rfl
  obtain rfl : us = Lib.compact (unitsIn l id day) := (Prod.mk.inj hUe).1
  have HR := Lib.hid hR
  have HB := Lib.hid (both_law hR unit id day)
  clear hR hUe HOK HBAD
  go_wp2
  go_loopg [13, 14] 4 (fun gg s13 s14 wr => ∃ k : Nat, k ≤ 4 ∧ 4 - k ≤ gg ∧ s14 = .int .i64 ((k : Int) + 1) ∧ s13 = .bool (holdsUp l unit id day k) ∧ Aside (Grew w5 wr))
  case atStart => exact ⟨0, by omega, by omega, rfl, rfl, (show Aside _ from Grew.refl _)⟩
  case round =>
    obtain ⟨k, hk, hgk, rfl, rfl, BW⟩ := hrel
    have GW := Lib.hid (G5.out.trans BW.out)
    by_cases hlt : k < 4
    · have hle : (k : Int) + 1 ≤ 4 := by omega
      have HN := Lib.hid (holdsUp_succ l unit id day k)
      generalize hNX : holdsUp l unit id day (k + 1) = NX at HN
      have HNX := Lib.hid hNX
      clear hNX
      generalize holdsUp l unit id day k = q at HN ⊢
      go_wp2_with fail
      refine (copyG a av _ (HA.out.mono GW.out) HFA.out).mono ?_
      rintro e w6 ⟨v6, rfl, s6, g6⟩
      have G6 := Lib.hid (BW.out.trans g6)
      have S6 := Lib.hid s6
      clear s6 g6
      dsimp only
      go_wp2_with fail
      refine (cloneG l lv _ (HL.out.mono (G5.out.trans G6.out)) hll).mono ?_
      rintro e w7 ⟨v7, rfl, s7, g7⟩
      have G7 := Lib.hid (G6.out.trans g7)
      have S6' := Lib.hid (S6.out.mono g7)
      have S7 := Lib.hid s7
      clear s7 g7 S6
      dsimp only
      have kH := rHolders a l unit ((k : Int) + 1) day v6 v7 w7 (HE.out.mono (G5.out.trans G7.out)) S6'.out HFA.out.au S7.out (by omega)
      rw [holders_ok HR.out hd0 hd1 (by omega) hle] at kH
      have hasc := holdersF_asc l unit ((k : Int) + 1) day
      generalize holdersF l unit ((k : Int) + 1) day = HF at kH hasc HN
      have KH := Lib.hid kH
      have HASC := Lib.hid hasc
      clear kH hasc
      go_wp2_with fail
      refine KH.out.mono ?_
      rintro e w8 ⟨v8, rfl, s8, g8⟩
      have G8 := Lib.hid (G7.out.trans g8)
      have S8 := Lib.hid s8
      clear s8 g8 KH S6' S7
      dsimp only
      go_wp2_with fail
      refine (isSortedI HF v8 _ S8.out HASC.out).mono ?_
      rintro e w9 ⟨rfl, g9⟩
      have G9 := Lib.hid (G8.out.trans g9)
      have S9 := Lib.hid (S8.out.mono g9)
      clear g9 S8
      dsimp only
      cases q
      · go_wp2_with fail
        refine (containsI HF id v8 _ S9.out).mono ?_
        rintro e w10 ⟨rfl, rfl⟩
        dsimp only
        go_wp2
        go_roundg (4 - (k + 1))
        case measure => omega
        case rel => exact ⟨k + 1, by omega, by omega, by go_num, by rw [HNX.out, HN.out, Bool.false_or], (show Aside _ from G9.out)⟩
      · go_wp2
        go_roundg (4 - (k + 1))
        case measure => omega
        case rel => exact ⟨k + 1, by omega, by omega, by go_num, by rw [HNX.out, HN.out, Bool.true_or], (show Aside _ from G9.out)⟩
    · have hle : ¬ (k : Int) + 1 ≤ 4 := by omega
      obtain rfl : k = 4 := by omega
      rw [HB.out]
      go_wp2_with fail
      refine (containsI _ unit v5 _ (S5.out.mono BW.out)).mono ?_
      rintro e w10 ⟨rfl, rfl⟩
      dsimp only
      go_wp2
      go_ret
      exact ⟨by simp, GW.out⟩
end Go.Proofs.YtfghbendiofbeaaGreatDoor
