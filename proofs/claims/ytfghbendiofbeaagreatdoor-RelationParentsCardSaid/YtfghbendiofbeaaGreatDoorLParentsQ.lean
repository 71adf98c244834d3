/- The statement on inherited holders, walked: it returns true at every input and changes no block that lay before. The condition: the library's own variables hold what they must. -/
import Derived.Test.YtfghbendiofbeaaGreatDoorLBothQ
import Derived.Test.YtfghbendiofbeaaGreatDoorQ27
import Derived.Test.YtfghbendiofbeaaGreatDoorQ16
import Derived.Deep.RegionHeld3
namespace Go.Proofs.YtfghbendiofbeaaGreatDoor
open Go.RowKit

theorem heldTwo (w1 W : World) (B : Nat) {v0 v1 : Value} (h0 : w1.cell? ⟨B, 0, none⟩ = some v0) (h1 : w1.cell? ⟨B, 1, none⟩ = some v1) (g : Grew w1 W) : W.cell? ⟨B, 0, none⟩ = some v0 ∧ W.cell? ⟨B, 1, none⟩ = some v1 ∧ Grew w1 W := ⟨keep_cell g h0, keep_cell g h1, g⟩
theorem heldThree (w1 W : World) (B C : Nat) {v0 v1 v2 : Value} (h0 : w1.cell? ⟨B, 0, none⟩ = some v0) (h1 : w1.cell? ⟨B, 1, none⟩ = some v1) (h2 : w1.cell? ⟨C, 1, none⟩ = some v2) (g : Grew w1 W) : W.cell? ⟨B, 0, none⟩ = some v0 ∧ W.cell? ⟨B, 1, none⟩ = some v1 ∧ W.cell? ⟨C, 1, none⟩ = some v2 ∧ Grew w1 W := ⟨keep_cell g h0, keep_cell g h1, keep_cell g h2, g⟩
set_option maxHeartbeats 16000000 in
set_option maxRecDepth 100000 in
theorem parents_walk (rs : List Int) (br : List Br) (a : List Auth) (l : List Rel) (unit role day : Int) (rv bv av lv : Value) (w : World) (hE : Env w) (hr : SlI w rv rs) (hb : SlBr w bv br) (ha : SlAu w av a) (hl : SlR w lv l) :
    Calls Tryz.prog 7 #[.agg #[rv, bv], av, lv, .int .i64 unit, .int .i64 role, .int .i64 day] w (YesG w) := by
  have KF := Lib.hid (fun W (hW : Grew w W) => few26_any a l av lv W (ha.mono hW) (hl.mono hW))
  have KT := Lib.hid (fun W (hW : Grew w W) => few19_any rs br rv bv W (hr.mono hW) (hb.mono hW))
  have HE := Lib.hid hE
  have HA := Lib.hid ha
  have HL := Lib.hid hl
  have kI := fun u W av' lv' (hW : Grew w W) (hf : FewT rs br) (h1 : FewA a) (h2 : SlAu W av' a) (h3 : SlR W lv' l) (h4 : l.length ≤ 257) => rInh rs br a l u role day rv bv av' lv' W (hE.mono hW) (hr.mono hW) (hb.mono hW) hf.br hf.rs h2 h1.au h3 (by omega)
  have KI := Lib.hid kI
  have KFI := Lib.hid (fun W (hW : Grew w W) => tFind br unit rv bv W (hb.mono hW))
  have HLAW := Lib.hid (@parents_law rs br a l unit role day)
  have HBAD := Lib.hid (@inhR_bad ⟨rs, br⟩ a l unit role day)
  obtain ⟨Ar, cr, rfl, -, -, -⟩ := hr.open_
  obtain ⟨Ab, cb, rfl, -, -, -⟩ := hb.open_
  clear hE ha hl hr hb kI
  go_enter Tryz.func7, Tryz.ntmps7
  go_wp2_with fail
  refine (awake26 _ (HE.out.mono ((Grew.refl w).alloc _))).mono ?_
  rintro e w1 ⟨rfl, g1⟩
  have c0 := new_cell g1 0 _ rfl
  have c1 := new_cell g1 1 _ rfl
  have G1 := Lib.hid (((Grew.refl w).alloc _).trans g1)
  clear g1
  dsimp only
  go_wp2_with fail
  refine (KF.out _ G1.out).mono ?_
  rintro e w2 ⟨q, rfl, hq, g2⟩
  have d0 := keep_cell g2 c0
  have d1 := keep_cell g2 c1
  have G2 := Lib.hid (G1.out.trans g2)
  have HQ := Lib.hid hq
  clear g2 hq c0 c1
  dsimp only
  cases q
  case false =>
    go_wp2_with fail
    refine (awake26 _ (HE.out.mono G2.out)).mono ?_
    rintro e w3 ⟨rfl, g3⟩
    dsimp only
    go_wp2
    go_ret
    exact ⟨rfl, G2.out.trans g3⟩
  obtain ⟨hfa, hll⟩ := HQ.out (by first | rfl | trivial)
  have HFA := Lib.hid hfa
  clear hfa HQ
  go_wp2_with fail
  refine (KT.out _ G2.out).mono ?_
  rintro e w3 ⟨q, rfl, hq, g3⟩
  have b0 := keep_cell g3 d0
  have b1 := keep_cell g3 d1
  have G3 := Lib.hid (G2.out.trans g3)
  have HQ := Lib.hid hq
  clear g3 hq d0 d1
  dsimp only
  cases q
  case false =>
    go_wp2_with fail
    refine (awake26 _ (HE.out.mono G3.out)).mono ?_
    rintro e w4 ⟨rfl, g4⟩
    dsimp only
    go_wp2
    go_ret
    exact ⟨rfl, G3.out.trans g4⟩
  have hft := HQ.out (by first | rfl | trivial)
  have HFT := Lib.hid hft
  clear hft HQ
  have KIU := Lib.hid (KI.out unit)
  have hu := HLAW.out
  have hbd := HBAD.out
  generalize hRI : inhR ⟨rs, br⟩ a l unit role day = RI at KIU hu hbd
  have HRI := Lib.hid hRI
  obtain ⟨⟨mi, fi⟩, ei⟩ := RI
  dsimp only at hu hbd
  have HU := Lib.hid hu
  have HBD := Lib.hid hbd
  clear hRI hu hbd HLAW HBAD
  go_wp2
  go_region_held3 (fun W => W.cell? ⟨w.heap.size, 0, none⟩ = some (.slice Ar rs.length cr) ∧ W.cell? ⟨w.heap.size, 1, none⟩ = some (.slice Ab br.length cb) ∧ Grew w3 W) (refine heldTwo w3 _ _ b0 b1 (by repeat (first | exact Grew.refl w3 | exact GG7.out | exact GG6.out | exact GG5.out | refine Grew.drew ?_))) (first | (go_at_call 14; refine (copyG a av _ (HA.out.mono (G3.out.trans (by repeat (first | exact Grew.refl w3 | refine Grew.drew ?_)))) HFA.out).mono ?_; rintro e w5 ⟨v5, rfl, s5, g5⟩; have GG5 := Lib.hid (show Grew w3 w5 from Grew.trans (by repeat (first | exact Grew.refl w3 | refine Grew.drew ?_)) g5); have S5 := Lib.hid s5; clear s5 g5) | (go_at_call 15; refine (cloneG l _ _ (HL.out.mono (G3.out.trans (by repeat (first | exact GG5.out | refine Grew.drew ?_)))) hll).mono ?_; rintro e w6 ⟨v6, rfl, s6, g6⟩; have GG6 := Lib.hid (show Grew w3 w6 from Grew.trans (by repeat (first | exact GG5.out | refine Grew.drew ?_)) g6); have S56 := Lib.hid (S5.out.mono (Grew.trans (by repeat (first | exact Grew.refl w5 | refine Grew.drew ?_)) g6)); have S6 := Lib.hid s6; clear s6 g6) | (go_at_call 30; refine (KIU.out _ v5 v6 (G3.out.trans (by repeat (first | exact GG6.out | refine Grew.drew ?_))) HFT.out HFA.out (S56.out.mono (by repeat (first | exact Grew.refl w6 | refine Grew.drew ?_))) (S6.out.mono (by repeat (first | exact Grew.refl w6 | refine Grew.drew ?_))) hll).mono ?_; rintro e w7 ⟨v7, rfl, s7, g7⟩; have GG7 := Lib.hid (show Grew w3 w7 from Grew.trans (by repeat (first | exact GG6.out | refine Grew.drew ?_)) g7); have S7 := Lib.hid s7; clear s7 g7))
  clear S5 S56 S6 KIU
  by_cases hei : ei = 0
  case neg =>
    have hei' : (ei != 0) = true := by simpa using hei
    have hm := HBD.out hei
    simp only [Prod.mk.injEq] at hm
    obtain ⟨rfl, rfl⟩ := hm
    obtain ⟨A7, c7, rfl, -, -, -⟩ := S7.out.open_
    clear hei
    go_wp2
    go_ret
    exact ⟨rfl, G3.out.trans GG7.out⟩
  subst hei
  obtain ⟨ho, b, hb, hz, h1, h2, h3⟩ := HU.out rfl
  have kH := fun W v v' (hW : Grew w W) (h1 : SlAu W v a) (h2 : SlR W v' l) => rHolders a l unit role day v v' W (HE.out.mono hW) h1 HFA.out.au h2 (by omega)
  generalize holdersR a l unit role day = RH at kH ho h1 h2 h3
  obtain ⟨oh, oe⟩ := RH
  dsimp only at ho h1 h2 h3
  subst ho
  have KH := Lib.hid kH
  have H1 := Lib.hid h1
  have H2 := Lib.hid h2
  have H3 := Lib.hid h3
  have HZ := Lib.hid hz
  have GW7 := Lib.hid (G3.out.trans GG7.out)
  have kF := fun W (hW : Grew w W) => KFI.out W hW
  rw [hb] at kF
  have KF2 := Lib.hid kF
  have d0 := keep_cell GG7.out b0
  have d1 := keep_cell GG7.out b1
  clear h1 h2 h3 hz kH kF hb KFI HU HBD b0 b1 GG5 GG6 GG7
  obtain ⟨A7, c7, rfl, hlc7, hcm7, -⟩ := S7.out.open_
  go_wp2_with fail
  refine (copyG a av _ (HA.out.mono GW7.out) HFA.out).mono ?_
  rintro e w71 ⟨v71, rfl, s71, g71⟩
  have GW71 := Lib.hid (GW7.out.trans g71)
  have G771 := Lib.hid g71
  have S71 := Lib.hid s71
  clear s71 g71
  dsimp only
  go_wp2_with fail
  refine (cloneG l _ _ (HL.out.mono GW71.out) hll).mono ?_
  rintro e w72 ⟨v72, rfl, s72, g72⟩
  have GW72 := Lib.hid (GW71.out.trans g72)
  have G772 := Lib.hid (G771.out.trans g72)
  have S7172 := Lib.hid (S71.out.mono g72)
  have S72 := Lib.hid s72
  clear s72 g72 S71
  dsimp only
  go_wp2_with fail
  refine (KH.out _ _ _ GW72.out S7172.out S72.out).mono ?_
  rintro e w8 ⟨v8, rfl, s8, g8⟩
  dsimp only at s8
  have GW8 := Lib.hid (GW72.out.trans g8)
  have G78 := Lib.hid (G772.out.trans g8)
  have S8 := Lib.hid s8
  have e0 := keep_cell G78.out d0
  have e1 := keep_cell G78.out d1
  clear g8 s8 S7172 S72 KH d0 d1
  obtain ⟨A8, c8, rfl, hlc8, hcm8, -⟩ := S8.out.open_
  dsimp only
  go_wp2_with fail
  have kF9 := KF2.out _ GW8.out
  obtain ⟨bi, bp, blv, bt, bm, bk⟩ := b
  unfold TFindEnd at kF9
  simp only [Option.getD_some, Option.isSome_some] at kF9
  have KF9 := Lib.hid kF9
  dsimp only at H2 H3
  clear kF9 KF2
  refine KF9.out.mono ?_
  rintro e w9 ⟨rfl, g9⟩
  have G79 := Lib.hid (G78.out.trans g9)
  have G89 := Lib.hid g9
  have GW9 := Lib.hid (GW8.out.trans g9)
  have f0 := keep_cell g9 e0
  have f1 := keep_cell g9 e1
  clear g9 e0 e1 KF9
  dsimp only
  have k0 := keep_cell ((Grew.refl w9).alloc (.cells #[.int .i64 bi, .int .i64 bp, .int .i64 blv, .string bt, .string bm] 57)) f0
  have k1 := keep_cell ((Grew.refl w9).alloc (.cells #[.int .i64 bi, .int .i64 bp, .int .i64 blv, .string bt, .string bm] 57)) f1
  have k2 := new_cell (Grew.refl (w9.alloc (.cells #[.int .i64 bi, .int .i64 bp, .int .i64 blv, .string bt, .string bm] 57))) 1 _ rfl
  have GW10 := Lib.hid (GW9.out.alloc (.cells #[.int .i64 bi, .int .i64 bp, .int .i64 blv, .string bt, .string bm] 57))
  have G710 := Lib.hid (G79.out.alloc (.cells #[.int .i64 bi, .int .i64 bp, .int .i64 blv, .string bt, .string bm] 57))
  have G810 := Lib.hid (G89.out.alloc (.cells #[.int .i64 bi, .int .i64 bp, .int .i64 blv, .string bt, .string bm] 57))
  by_cases hoh : oh = []
  case neg =>
    have he := H1.out hoh
    simp only [Prod.mk.injEq] at he
    obtain ⟨rfl, rfl⟩ := he
    have hpos : (0 : Int) < (mi.length : Int) := by have := List.length_pos_iff.2 hoh; omega
    have y1 : (fi == 0) = false := by
      have : ¬ fi = 0 := fun h => hoh (HZ.out.1 h)
      simpa using this
    have y2 : ((mi.length : Int) == 0) = false := by rw [beq_eq_false_iff_ne]; omega
    clear hoh H1 H2 H3 k0 k1 k2
    go_wp2_with fail
    refine (equalI mi mi _ _ _ (S7.out.mono G710.out) (S8.out.mono G810.out)).mono ?_
    rintro e w11 ⟨rfl, g11⟩
    simp only [decide_true]
    go_wp2
    go_ret
    exact ⟨rfl, GW10.out.trans g11⟩
  subst hoh
  clear H1
  by_cases hbp : bp = 0
  · subst hbp
    have hfi := H2.out rfl rfl
    subst hfi
    have hzz := HZ.out.1 rfl
    subst hzz
    clear H2 H3 k0 k1 k2
    go_wp2
    go_ret
    exact ⟨rfl, GW10.out⟩
  · have hbp' : (bp == 0) = false := by simpa using hbp
    have h3 := H3.out rfl hbp
    have kP := KI.out bp
    rw [h3] at kP
    have KIP := Lib.hid kP
    clear h3 kP hbp H2 H3
    have hcs : (fi = 0 ∧ mi = []) ∨ ((fi == 0) = false ∧ ((mi.length : Int) == 0) = false) := by
      by_cases h : fi = 0
      · exact .inl ⟨h, HZ.out.1 h⟩
      · refine .inr ⟨by simpa using h, ?_⟩
        have : mi ≠ [] := fun e => h (HZ.out.2 e)
        have := List.length_pos_iff.2 this
        rw [beq_eq_false_iff_ne]
        omega
    rcases hcs with ⟨rfl, rfl⟩ | ⟨y1, y2⟩
    all_goals
     go_wp2_with fail
     generalize w9.alloc (.cells #[.int .i64 bi, .int .i64 bp, .int .i64 blv, .string bt, .string bm] 57) = w10 at k0 k1 k2 GW10 G710 G810 ⊢
     go_region_held3 (fun W => W.cell? ⟨w.heap.size, 0, none⟩ = some (.slice Ar rs.length cr) ∧ W.cell? ⟨w.heap.size, 1, none⟩ = some (.slice Ab br.length cb) ∧ W.cell? ⟨w9.heap.size, 1, none⟩ = some (.int .i64 bp) ∧ Grew w10 W) (refine heldThree w10 _ _ _ k0 k1 k2 (by repeat (first | exact Grew.refl w10 | exact GG17.out | exact GG16.out | exact GG15.out | refine Grew.drew ?_))) (first | (go_at_call 14; refine (copyG a av _ (HA.out.mono (GW10.out.trans (by repeat (first | exact Grew.refl w10 | refine Grew.drew ?_)))) HFA.out).mono ?_; rintro e w15 ⟨v15, rfl, s15, g15⟩; have GG15 := Lib.hid (show Grew w10 w15 from Grew.trans (by repeat (first | exact Grew.refl w10 | refine Grew.drew ?_)) g15); have S15 := Lib.hid s15; clear s15 g15) | (go_at_call 15; refine (cloneG l _ _ (HL.out.mono (GW10.out.trans (by repeat (first | exact GG15.out | refine Grew.drew ?_)))) hll).mono ?_; rintro e w16 ⟨v16, rfl, s16, g16⟩; have GG16 := Lib.hid (show Grew w10 w16 from Grew.trans (by repeat (first | exact GG15.out | refine Grew.drew ?_)) g16); have S156 := Lib.hid (S15.out.mono (Grew.trans (by repeat (first | exact Grew.refl w15 | refine Grew.drew ?_)) g16)); have S16 := Lib.hid s16; clear s16 g16) | (go_at_call 30; refine (KIP.out _ v15 v16 (GW10.out.trans (by repeat (first | exact GG16.out | refine Grew.drew ?_))) HFT.out HFA.out (S156.out.mono (by repeat (first | exact Grew.refl w16 | refine Grew.drew ?_))) (S16.out.mono (by repeat (first | exact Grew.refl w16 | refine Grew.drew ?_))) hll).mono ?_; rintro e w17 ⟨v17, rfl, s17, g17⟩; have GG17 := Lib.hid (show Grew w10 w17 from Grew.trans (by repeat (first | exact GG16.out | refine Grew.drew ?_)) g17); have S17 := Lib.hid s17; clear s17 g17))
     clear S15 S156 S16
     go_wp2_with fail
     refine (equalI _ _ _ _ _ (S7.out.mono (G710.out.trans GG17.out)) S17.out).mono ?_
     rintro e w18 ⟨rfl, g18⟩
     simp only [decide_true]
     go_wp2
     go_ret
     exact ⟨rfl, GW10.out.trans (GG17.out.trans g18)⟩
end Go.Proofs.YtfghbendiofbeaaGreatDoor
