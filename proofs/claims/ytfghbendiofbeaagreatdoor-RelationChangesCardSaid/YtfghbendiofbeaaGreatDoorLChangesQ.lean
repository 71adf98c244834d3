/- The statement on the changes of relations, walked: it returns true at every input and changes no block that lay before. The condition: the library's own variables hold what they must. -/
import Derived.Test.YtfghbendiofbeaaGreatDoorQ27
import Derived.Test.YtfghbendiofbeaaGreatDoorQ30
import Derived.Deep.RegionHeld3
namespace Go.Proofs.YtfghbendiofbeaaGreatDoor
open Go.RowKit

set_option maxHeartbeats 16000000 in
set_option maxRecDepth 100000 in
theorem changes_walk (a : List Auth) (l : List Rel) (x : Rel) (day : Int) (av lv : Value) (w : World) (hE : Env w) (ha : SlAu w av a) (hl : SlR w lv l) :
    Calls Tryz.prog 4 #[av, lv, x.agg, .int .i64 day] w (YesG w) := by
  have KF := Lib.hid (fun W (hW : Grew w W) => few26_any a l av lv W (ha.mono hW) (hl.mono hW))
  have HE := Lib.hid hE
  have HA := Lib.hid ha
  have HL := Lib.hid hl
  have hbox := BoxR.new w x 27
  have kA := fun W av' lv' (hW : Grew w W) (h1 : FewA a) (h2 : SlAu W av' a) (h3 : SlR W lv' l) (h4 : l.length ≤ 257) => rAdd a l x av' lv' W (hE.mono hW) h2 h1.au h3 (by omega)
  have kN := fun W av' lv' (hW : Grew w W) (h1 : FewA a) (h2 : SlAu W av' a) (h3 : SlR W lv' l) (h4 : l.length ≤ 257) => rEnd a l x day av' lv' W (hE.mono hW) h2 h1.au h3 (by omega)
  have kA2 := fun W (hW : Grew w W) (h4 : l.length ≤ 257) => refAdd a l x av lv W (ha.mono hW) (hl.mono hW) (by omega)
  have kN2 := fun W (hW : Grew w W) (h4 : l.length ≤ 257) => refEnd a l x day av lv W (ha.mono hW) (hl.mono hW) (by omega)
  generalize addR a l x = RA at kA kA2
  obtain ⟨m, ae⟩ := RA
  generalize endR a l x day = RN at kN kN2
  obtain ⟨n, ne⟩ := RN
  unfold Rel.cells at hbox
  unfold Rel.agg at kA kN kA2 kN2 ⊢
  obtain ⟨xu, xr, xa, xf, xn⟩ := x
  dsimp only at kA kN kA2 kN2 hbox ⊢
  obtain ⟨b0, b1, b2, b3, b4⟩ := hbox
  dsimp only at b0 b1 b2 b3 b4
  have HB := Lib.hid (And.intro b0 (And.intro b1 (And.intro b2 (And.intro b3 b4))))
  obtain ⟨Al, cl, rfl, hlc, hcm, -⟩ := hl.open_
  obtain ⟨Aa, ca, rfl, -, -, -⟩ := ha.open_
  have KA := Lib.hid kA
  have KN := Lib.hid kN
  have KA2 := Lib.hid kA2
  have KN2 := Lib.hid kN2
  clear hE ha hl b0 b1 b2 b3 b4 kA kN kA2 kN2
  go_enter Tryz.func4, Tryz.ntmps4
  go_wp2_with fail
  refine (awake26 _ (HE.out.mono ((Grew.refl w).alloc _))).mono ?_
  rintro e w1 ⟨rfl, g1⟩
  obtain ⟨b0, b1, b2, b3, b4⟩ := HB.out
  have HB1 := Lib.hid (And.intro (keep_cell g1 b0) (And.intro (keep_cell g1 b1) (And.intro (keep_cell g1 b2) (And.intro (keep_cell g1 b3) (keep_cell g1 b4)))))
  have G1 := Lib.hid (((Grew.refl w).alloc _).trans g1)
  clear g1 b0 b1 b2 b3 b4 HB
  dsimp only
  go_wp2_with fail
  refine (KF.out _ G1.out).mono ?_
  rintro e w2 ⟨q, rfl, hq, g2⟩
  obtain ⟨b0, b1, b2, b3, b4⟩ := HB1.out
  have HB2 := Lib.hid (And.intro (keep_cell g2 b0) (And.intro (keep_cell g2 b1) (And.intro (keep_cell g2 b2) (And.intro (keep_cell g2 b3) (keep_cell g2 b4)))))
  have G2 := Lib.hid (G1.out.trans g2)
  have HQ := Lib.hid hq
  clear g2 hq b0 b1 b2 b3 b4 HB1
  dsimp only
  cases q
  case false =>
    go_wp2_with fail
    refine (awake26 _ (HE.out.mono G2.out)).mono ?_
    rintro e w3 ⟨rfl, g3⟩
    dsimp only
    go_wp2
    go_ret
    exact ⟨rfl, G2.out.trans g3⟩
  obtain ⟨hfa, hll⟩ := HQ.out (by first | rfl | trivial)
  have HFA := Lib.hid hfa
  clear hfa HQ
  obtain ⟨b0, b1, b2, b3, b4⟩ := HB2.out
  go_wp2_with fail
  go_region_held3 (fun W => W.cell? ⟨w.heap.size, 0, none⟩ = some (.int .i64 xu) ∧ W.cell? ⟨w.heap.size, 1, none⟩ = some (.int .i64 xr) ∧ W.cell? ⟨w.heap.size, 2, none⟩ = some (.int .i64 xa) ∧ W.cell? ⟨w.heap.size, 3, none⟩ = some (.int .i64 xf) ∧ W.cell? ⟨w.heap.size, 4, none⟩ = some (.int .i64 xn) ∧ Grew w2 W) (refine heldBox w2 _ _ _ _ _ _ _ b0 b1 b2 b3 b4 (by repeat (first | exact Grew.refl w2 | exact GG7.out | exact GG6.out | exact GG5.out | refine Grew.drew ?_))) (first | (go_at_call 14; refine (copyG a _ _ (HA.out.mono (G2.out.trans (by repeat (first | exact Grew.refl w2 | refine Grew.drew ?_)))) HFA.out).mono ?_; rintro e w5 ⟨v5, rfl, s5, g5⟩; have GG5 := Lib.hid (show Grew w2 w5 from Grew.trans (by repeat (first | exact Grew.refl w2 | refine Grew.drew ?_)) g5); have S5 := Lib.hid s5; clear s5 g5) | (go_at_call 15; refine (cloneG l _ _ (HL.out.mono (G2.out.trans (by repeat (first | exact GG5.out | refine Grew.drew ?_)))) hll).mono ?_; rintro e w6 ⟨v6, rfl, s6, g6⟩; have GG6 := Lib.hid (show Grew w2 w6 from Grew.trans (by repeat (first | exact GG5.out | refine Grew.drew ?_)) g6); have T5 := Lib.hid (S5.out.mono (Grew.trans (by repeat (first | exact Grew.refl w5 | refine Grew.drew ?_)) g6)); have S6 := Lib.hid s6; clear s6 g6) | (go_at_call 19; refine (KA.out _ v5 v6 (G2.out.trans (by repeat (first | exact GG6.out | refine Grew.drew ?_))) HFA.out (T5.out.mono (by repeat (first | exact Grew.refl w6 | refine Grew.drew ?_))) (S6.out.mono (by repeat (first | exact Grew.refl w6 | refine Grew.drew ?_))) hll).mono ?_; rintro e w7 ⟨v7, rfl, s7, g7, -⟩; have GG7 := Lib.hid (show Grew w2 w7 from Grew.trans (by repeat (first | exact GG6.out | refine Grew.drew ?_)) g7); have S7 := Lib.hid s7; clear s7 g7))
  have GW7 := Lib.hid (G2.out.trans GG7.out)
  have HB7 := Lib.hid (And.intro (keep_cell GG7.out b0) (And.intro (keep_cell GG7.out b1) (And.intro (keep_cell GG7.out b2) (And.intro (keep_cell GG7.out b3) (keep_cell GG7.out b4)))))
  clear S5 T5 S6 KA b0 b1 b2 b3 b4 HB2 GG5 GG6 GG7
  obtain ⟨b0, b1, b2, b3, b4⟩ := HB7.out
  go_wp2_with fail
  refine (KA2.out _ GW7.out hll).mono ?_
  rintro e w8 ⟨v8, rfl, s8, g8⟩
  dsimp only at s8
  have GW8 := Lib.hid (GW7.out.trans g8)
  have HB8 := Lib.hid (And.intro (keep_cell g8 b0) (And.intro (keep_cell g8 b1) (And.intro (keep_cell g8 b2) (And.intro (keep_cell g8 b3) (keep_cell g8 b4)))))
  have S78 := Lib.hid (S7.out.mono g8)
  have S8 := Lib.hid s8
  clear s8 g8 b0 b1 b2 b3 b4 HB7 S7 KA2
  obtain ⟨b0, b1, b2, b3, b4⟩ := HB8.out
  dsimp only
  go_wp2_with fail
  go_region_held3 (fun W => W.cell? ⟨w.heap.size, 0, none⟩ = some (.int .i64 xu) ∧ W.cell? ⟨w.heap.size, 1, none⟩ = some (.int .i64 xr) ∧ W.cell? ⟨w.heap.size, 2, none⟩ = some (.int .i64 xa) ∧ W.cell? ⟨w.heap.size, 3, none⟩ = some (.int .i64 xf) ∧ W.cell? ⟨w.heap.size, 4, none⟩ = some (.int .i64 xn) ∧ Grew w8 W) (refine heldBox w8 _ _ _ _ _ _ _ b0 b1 b2 b3 b4 (by repeat (first | exact Grew.refl w8 | exact GG11.out | exact GG10.out | exact GG9.out | refine Grew.drew ?_))) (first | (go_at_call 14; refine (copyG a _ _ (HA.out.mono (GW8.out.trans (by repeat (first | exact Grew.refl w8 | refine Grew.drew ?_)))) HFA.out).mono ?_; rintro e w9 ⟨v9, rfl, s9, g9⟩; have GG9 := Lib.hid (show Grew w8 w9 from Grew.trans (by repeat (first | exact Grew.refl w8 | refine Grew.drew ?_)) g9); have S9 := Lib.hid s9; clear s9 g9) | (go_at_call 15; refine (cloneG l _ _ (HL.out.mono (GW8.out.trans (by repeat (first | exact GG9.out | refine Grew.drew ?_)))) hll).mono ?_; rintro e w10 ⟨v10, rfl, s10, g10⟩; have GG10 := Lib.hid (show Grew w8 w10 from Grew.trans (by repeat (first | exact GG9.out | refine Grew.drew ?_)) g10); have T9 := Lib.hid (S9.out.mono (Grew.trans (by repeat (first | exact Grew.refl w9 | refine Grew.drew ?_)) g10)); have S10 := Lib.hid s10; clear s10 g10) | (go_at_call 21; refine (KN.out _ v9 v10 (GW8.out.trans (by repeat (first | exact GG10.out | refine Grew.drew ?_))) HFA.out (T9.out.mono (by repeat (first | exact Grew.refl w10 | refine Grew.drew ?_))) (S10.out.mono (by repeat (first | exact Grew.refl w10 | refine Grew.drew ?_))) hll).mono ?_; rintro e w11 ⟨v11, rfl, s11, g11, -⟩; have GG11 := Lib.hid (show Grew w8 w11 from Grew.trans (by repeat (first | exact GG10.out | refine Grew.drew ?_)) g11); have S11 := Lib.hid s11; clear s11 g11))
  have GW11 := Lib.hid (GW8.out.trans GG11.out)
  have G8B := Lib.hid GG11.out
  have HB11 := Lib.hid (And.intro (keep_cell GG11.out b0) (And.intro (keep_cell GG11.out b1) (And.intro (keep_cell GG11.out b2) (And.intro (keep_cell GG11.out b3) (keep_cell GG11.out b4)))))
  clear S9 T9 S10 KN b0 b1 b2 b3 b4 HB8 GG9 GG10 GG11
  obtain ⟨b0, b1, b2, b3, b4⟩ := HB11.out
  go_wp2_with fail
  refine (KN2.out _ GW11.out hll).mono ?_
  rintro e w12 ⟨v12, rfl, s12, g12⟩
  dsimp only at s12
  have GW12 := Lib.hid (GW11.out.trans g12)
  have G8C := Lib.hid (G8B.out.trans g12)
  have S11C := Lib.hid (S11.out.mono g12)
  have S12 := Lib.hid s12
  clear s12 g12 b0 b1 b2 b3 b4 HB11 S11 KN2
  dsimp only
  go_wp2_with fail
  refine (refSameL m _ _ _ (S78.out.mono G8C.out) (S8.out.mono G8C.out)).mono ?_
  rintro e w13 ⟨rfl, g13⟩
  have GW13 := Lib.hid (GW12.out.trans g13)
  have S1 := Lib.hid (S11C.out.mono g13)
  have S2 := Lib.hid (S12.out.mono g13)
  clear g13
  dsimp only
  go_wp2_with fail
  refine (refSameL n _ _ _ S1.out S2.out).mono ?_
  rintro e w14 ⟨rfl, g14⟩
  dsimp only
  go_wp2
  go_ret
  exact ⟨by simp, GW13.out.trans g14⟩
end Go.Proofs.YtfghbendiofbeaaGreatDoor
