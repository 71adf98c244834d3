/- The statement on the inherited holders, walked: it returns true at every input and changes no block that lay before. The condition: the library's own variables hold what they must. -/
import Derived.Test.YtfghbendiofbeaaGreatDoorQ30
import Derived.Test.YtfghbendiofbeaaGreatDoorQ31
import Derived.Test.YtfghbendiofbeaaGreatDoorQ32
import Derived.Deep.RegionHeld3
namespace Go.Proofs.YtfghbendiofbeaaGreatDoor
open Go.RowKit

theorem heldPair (w1 W : World) {B : Nat} {v0 v1 : Value} (k0 k1 : Nat) (h0 : w1.cell? ⟨B, k0, none⟩ = some v0) (h1 : w1.cell? ⟨B, k1, none⟩ = some v1) (g : Grew w1 W) : W.cell? ⟨B, k0, none⟩ = some v0 ∧ W.cell? ⟨B, k1, none⟩ = some v1 ∧ Grew w1 W := ⟨keep_cell g h0, keep_cell g h1, g⟩
theorem path_len {rs : List Int} {br : List Br} {u : Int} (hT : RightT ⟨rs, br⟩) : (pathR br u).1.length ≤ 1000000 := by
  unfold pathR
  split
  · simp
  · rename_i b _
    have h1 := upIds_len br br.length b
    have h2 : br.length ≤ 256 := hT.1
    simp only [pathF, List.length_reverse]
    omega
set_option maxHeartbeats 16000000 in
set_option maxRecDepth 100000 in
theorem inherits_walk (rs : List Int) (br : List Br) (a : List Auth) (l : List Rel) (unit role day : Int) (rv bv av lv : Value) (w : World) (hE : Env w) (hr : SlI w rv rs) (hb : SlBr w bv br) (ha : SlAu w av a) (hl : SlR w lv l) :
    Calls Tryz.prog 6 #[.agg #[rv, bv], av, lv, .int .i64 unit, .int .i64 role, .int .i64 day] w (YesG w) := by
  have KF := Lib.hid (fun W (hW : Grew w W) => few26_any a l av lv W (ha.mono hW) (hl.mono hW))
  have KT := Lib.hid (fun W (hW : Grew w W) => few19_m rs br rv bv W (hr.mono hW) (hb.mono hW))
  have HE := Lib.hid hE
  have HA := Lib.hid ha
  have HL := Lib.hid hl
  have kI := fun W av' lv' (hW : Grew w W) (hf : FewTM rs br) (h1 : FewA a) (h2 : SlAu W av' a) (h3 : SlR W lv' l) (h4 : l.length ≤ 257) => rInh rs br a l unit role day rv bv av' lv' W (hE.mono hW) (hr.mono hW) (hb.mono hW) hf.br hf.rs h2 h1.au h3 (by omega)
  have kI2 := fun W (hW : Grew w W) (hf : FewTM rs br) (h4 : l.length ≤ 257) => refInh rs br a l unit role day rv bv av lv W (hr.mono hW) (hb.mono hW) hf.br hf.rs hf.marks (ha.mono hW) (hl.mono hW) (by omega) path_len
  generalize inhR ⟨rs, br⟩ a l unit role day = RA at kI kI2
  obtain ⟨⟨hs, hu⟩, he⟩ := RA
  have KI := Lib.hid kI
  have KI2 := Lib.hid kI2
  obtain ⟨Ar, cr, rfl, -, -, -⟩ := hr.open_
  obtain ⟨Ab, cb, rfl, -, -, -⟩ := hb.open_
  obtain ⟨Al, cl, rfl, -, -, -⟩ := hl.open_
  obtain ⟨Aa, ca, rfl, -, -, -⟩ := ha.open_
  clear hE ha hl hr hb kI kI2
  go_enter Tryz.func6, Tryz.ntmps6
  go_wp2_with fail
  refine (awake26 _ (HE.out.mono ((Grew.refl w).alloc _))).mono ?_
  rintro e w1 ⟨rfl, g1⟩
  have B1 := Lib.hid g1
  have G1 := Lib.hid (((Grew.refl w).alloc _).trans g1)
  clear g1
  dsimp only
  go_wp2_with fail
  refine (KF.out _ G1.out).mono ?_
  rintro e w2 ⟨q, rfl, hq, g2⟩
  have B2 := Lib.hid (B1.out.trans g2)
  have G2 := Lib.hid (G1.out.trans g2)
  have HQ := Lib.hid hq
  clear g2 hq
  dsimp only
  cases q
  case false =>
    go_wp2_with fail
    refine (awake26 _ (HE.out.mono G2.out)).mono ?_
    rintro e w3 ⟨rfl, g3⟩
    dsimp only
    go_wp2
    go_ret
    exact ⟨rfl, G2.out.trans g3⟩
  obtain ⟨hfa, hll⟩ := HQ.out (by first | rfl | trivial)
  have HFA := Lib.hid hfa
  clear hfa HQ
  have b0 := new_cell B2.out 0 _ rfl
  have b1 := new_cell B2.out 1 _ rfl
  go_wp2_with fail
  refine (KT.out _ G2.out).mono ?_
  rintro e w3 ⟨q, rfl, hq, g3⟩
  have B3 := Lib.hid (B2.out.trans g3)
  have G3 := Lib.hid (G2.out.trans g3)
  have HQ := Lib.hid hq
  clear g3 hq b0 b1
  dsimp only
  cases q
  case false =>
    go_wp2_with fail
    refine (awake26 _ (HE.out.mono G3.out)).mono ?_
    rintro e w4 ⟨rfl, g4⟩
    dsimp only
    go_wp2
    go_ret
    exact ⟨rfl, G3.out.trans g4⟩
  have HFT := Lib.hid (HQ.out (by first | rfl | trivial))
  have b0 := new_cell B3.out 0 _ rfl
  have b1 := new_cell B3.out 1 _ rfl
  clear HQ
  go_wp2_with fail
  go_region_held3 (fun W => W.cell? ⟨w.heap.size, 0, none⟩ = some (.slice Ar rs.length cr) ∧ W.cell? ⟨w.heap.size, 1, none⟩ = some (.slice Ab br.length cb) ∧ Grew w3 W) (refine heldPair w3 _ _ _ b0 b1 (by repeat (first | exact Grew.refl w3 | exact GG7.out | exact GG6.out | exact GG5.out | refine Grew.drew ?_))) (first | (go_at_call 14; refine (copyG a _ _ (HA.out.mono (G3.out.trans (by repeat (first | exact Grew.refl w3 | refine Grew.drew ?_)))) HFA.out).mono ?_; rintro e w5 ⟨v5, rfl, s5, g5⟩; have GG5 := Lib.hid (show Grew w3 w5 from Grew.trans (by repeat (first | exact Grew.refl w3 | refine Grew.drew ?_)) g5); have S5 := Lib.hid s5; clear s5 g5) | (go_at_call 15; refine (cloneG l _ _ (HL.out.mono (G3.out.trans (by repeat (first | exact GG5.out | refine Grew.drew ?_)))) hll).mono ?_; rintro e w6 ⟨v6, rfl, s6, g6⟩; have GG6 := Lib.hid (show Grew w3 w6 from Grew.trans (by repeat (first | exact GG5.out | refine Grew.drew ?_)) g6); have T5 := Lib.hid (S5.out.mono (Grew.trans (by repeat (first | exact Grew.refl w5 | refine Grew.drew ?_)) g6)); have S6 := Lib.hid s6; clear s6 g6) | (go_at_call 30; refine (KI.out _ v5 v6 (G3.out.trans (by repeat (first | exact GG6.out | refine Grew.drew ?_))) HFT.out HFA.out (T5.out.mono (by repeat (first | exact Grew.refl w6 | refine Grew.drew ?_))) (S6.out.mono (by repeat (first | exact Grew.refl w6 | refine Grew.drew ?_))) hll).mono ?_; rintro e w7 ⟨v7, rfl, s7, g7⟩; have GG7 := Lib.hid (show Grew w3 w7 from Grew.trans (by repeat (first | exact GG6.out | refine Grew.drew ?_)) g7); have S7 := Lib.hid s7; clear s7 g7))
  have GW7 := Lib.hid (G3.out.trans GG7.out)
  have d0 := keep_cell GG7.out b0
  have d1 := keep_cell GG7.out b1
  clear S5 T5 S6 KI b0 b1 GG5 GG6 GG7
  go_wp2_with fail
  refine (KI2.out _ GW7.out HFT.out hll).mono ?_
  rintro e w8 ⟨v8, rfl, s8, g8⟩
  have GW8 := Lib.hid (GW7.out.trans g8)
  have S78 := Lib.hid (S7.out.mono g8)
  have S8 := Lib.hid s8
  clear s8 g8 d0 d1 S7 KI2
  dsimp only at S78 S8 ⊢
  go_wp2_with fail
  refine (sameI hs _ _ _ S78.out S8.out).mono ?_
  rintro e w9 ⟨rfl, g9⟩
  dsimp only
  go_wp2
  go_ret
  exact ⟨by simp, GW8.out.trans g9⟩
end Go.Proofs.YtfghbendiofbeaaGreatDoor
