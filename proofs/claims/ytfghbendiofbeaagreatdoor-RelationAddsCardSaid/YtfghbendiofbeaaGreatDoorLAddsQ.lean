/- The statement on adding, walked: it returns true at every input and changes no block that lay before. The condition: the library's own variables hold what they must. -/
import Derived.Test.YtfghbendiofbeaaGreatDoorLBothQ
import Derived.Test.YtfghbendiofbeaaGreatDoorQ27
import Derived.Deep.RegionHeld3
namespace Go.Proofs.YtfghbendiofbeaaGreatDoor
open Go.RowKit

theorem enters_adds1 : ∀ args w, (callFunc 38 args).run Tryz.prog w = .ok (.enter 38 args) w := enters_of Tryz.func38 (by kernel_rfl) rfl
theorem adds1 (n z : Int) (B : Nat) (W : World) (h : W.cell? ⟨B, 2, none⟩ = some (.int .i64 z)) : Calls Tryz.prog 38 (#[.int .i64 n] ++ #[.pointer (some ⟨B, 0, none⟩)]) W fun e w' => e = .returned (.bool (n == z)) ∧ Grew W w' := by
  show Calls Tryz.prog 38 #[.int .i64 n, .pointer (some ⟨B, 0, none⟩)] W _
  go_enter Tryz.func38, Tryz.ntmps38
  go_wp2
  go_ret
  exact ⟨rfl, Grew.refl _⟩
def CloneIEnd (l : List Int) (w : World) (e : Ending) (w' : World) : Prop := ∃ v, e = .returned v ∧ w'.ownsRow w.heap.size 3 1 v l.length (l.flatMap oneI) ∧ Grew w w'
theorem cloneIG (l : List Int) (v : Value) (w : World) (hv : SlI w v l) (hl : l.length ≤ 1000000) : Calls Tryz.prog 37 #[v] w (CloneIEnd l w) := cloneI l v w hv (by omega)
def DelEnd (l : List Int) (w0 w : World) (e : Ending) (w' : World) : Prop := ∃ v, e = .returned v ∧ SlI w' v l ∧ Grew w0 w'
/-- The holders without one authority, on a row of the call's own. -/
theorem delG (l : List Int) (z : Int) (B : Nat) (w0 w : World) (v : Value) (hown : w.ownsRow w0.heap.size 3 1 v l.length (l.flatMap oneI)) (hg : Grew w0 w) (hB : w0.cell? ⟨B, 2, none⟩ = some (.int .i64 z)) :
    Calls Tryz.prog 33 #[v, .func (.func 38) #[] #[.pointer (some ⟨B, 0, none⟩)]] w (DelEnd (l.filter fun n => !(n == z)) w0 w) := by
  have hlt := World.block_lt_of_cell? w0 _ hB
  refine (deleteFuncI l (fun n => n == z) _ #[.pointer (some ⟨B, 0, none⟩)] enters_adds1 w0.heap.size v w hg.size hown (fun W n hW _ => adds1 n z B W (((Below.cell (Below.trans hg hW) hlt)).trans hB))).mono ?_
  rintro e w' ⟨v', rfl, ho, hb⟩
  exact ⟨v', rfl, Rd.of_own ho, Below.trans hg hb⟩
set_option maxHeartbeats 16000000 in
set_option maxRecDepth 100000 in
theorem adds_walk (a : List Auth) (l : List Rel) (x : Rel) (unit role day : Int) (av lv : Value) (w : World) (hE : Env w) (ha : SlAu w av a) (hl : SlR w lv l) :
    Calls Tryz.prog 10 #[av, lv, x.agg, .int .i64 unit, .int .i64 role, .int .i64 day] w (YesG w) := by
  have KF := Lib.hid (fun W (hW : Grew w W) => few26_any a l av lv W (ha.mono hW) (hl.mono hW))
  have HE := Lib.hid hE
  have HA := Lib.hid ha
  have HL := Lib.hid hl
  have hbox := BoxR.new w x 27
  have hok := @add_ok a l x
  have hbad := @add_bad a l x
  have hlen := len_insR l x
  have ho1 := add_other l x unit role day
  have ho2 := @add_there l x unit role day
  have ho3 := @add_new l x unit role day
  have ho4 := @add_rest l x unit role day
  rw [relOn_b] at ho1 ho2 ho3 ho4
  have kA := fun W av' lv' (hW : Grew w W) (h1 : FewA a) (h2 : SlAu W av' a) (h3 : SlR W lv' l) (h4 : l.length ≤ 257) => rAdd a l x av' lv' W (hE.mono hW) h2 h1.au h3 (by omega)
  generalize addR a l x = RA at kA hok hbad
  obtain ⟨m, ae⟩ := RA
  generalize insR l x = IL at hok hlen ho1 ho2 ho3 ho4
  unfold Rel.cells at hbox
  unfold Rel.agg at kA ⊢
  obtain ⟨xu, xr, xa, xf, xn⟩ := x
  dsimp only at kA hok hbad hlen ho1 ho2 ho3 ho4 hbox ⊢
  obtain ⟨b0, b1, b2, b3, b4⟩ := hbox
  dsimp only at b0 b1 b2 b3 b4
  have HB := Lib.hid (And.intro b0 (And.intro b1 (And.intro b2 (And.intro b3 b4))))
  have KA := Lib.hid kA
  have HOK := Lib.hid hok
  have HBAD := Lib.hid hbad
  have HLEN := Lib.hid hlen
  have HO1 := Lib.hid ho1
  have HO2 := Lib.hid ho2
  have HO3 := Lib.hid ho3
  have HO4 := Lib.hid ho4
  obtain ⟨Al, cl, rfl, hlc, hcm, -⟩ := hl.open_
  clear hE ha hl b0 b1 b2 b3 b4 kA hok hbad hlen ho1 ho2 ho3 ho4
  go_enter Tryz.func10, Tryz.ntmps10
  go_wp2_with fail
  refine (awake26 _ (HE.out.mono ((Grew.refl w).alloc _))).mono ?_
  rintro e w1 ⟨rfl, g1⟩
  obtain ⟨b0, b1, b2, b3, b4⟩ := HB.out
  have HB1 := Lib.hid (And.intro (keep_cell g1 b0) (And.intro (keep_cell g1 b1) (And.intro (keep_cell g1 b2) (And.intro (keep_cell g1 b3) (keep_cell g1 b4)))))
  have G1 := Lib.hid (((Grew.refl w).alloc _).trans g1)
  clear g1 b0 b1 b2 b3 b4 HB
  dsimp only
  go_wp2_with fail
  refine (KF.out _ G1.out).mono ?_
  rintro e w2 ⟨q, rfl, hq, g2⟩
  obtain ⟨b0, b1, b2, b3, b4⟩ := HB1.out
  have HB2 := Lib.hid (And.intro (keep_cell g2 b0) (And.intro (keep_cell g2 b1) (And.intro (keep_cell g2 b2) (And.intro (keep_cell g2 b3) (keep_cell g2 b4)))))
  have G2 := Lib.hid (G1.out.trans g2)
  have HQ := Lib.hid hq
  clear g2 hq b0 b1 b2 b3 b4 HB1
  dsimp only
  cases q
  case false =>
    go_wp2_with fail
    refine (awake26 _ (HE.out.mono G2.out)).mono ?_
    rintro e w3 ⟨rfl, g3⟩
    dsimp only
    go_wp2
    go_ret
    exact ⟨rfl, G2.out.trans g3⟩
  obtain ⟨hfa, hll⟩ := HQ.out (by first | rfl | trivial)
  have HFA := Lib.hid hfa
  clear hfa HQ
  obtain ⟨b0, b1, b2, b3, b4⟩ := HB2.out
  go_wp2
  go_region_held3 (fun W => W.cell? ⟨w.heap.size, 0, none⟩ = some (.int .i64 xu) ∧ W.cell? ⟨w.heap.size, 1, none⟩ = some (.int .i64 xr) ∧ W.cell? ⟨w.heap.size, 2, none⟩ = some (.int .i64 xa) ∧ W.cell? ⟨w.heap.size, 3, none⟩ = some (.int .i64 xf) ∧ W.cell? ⟨w.heap.size, 4, none⟩ = some (.int .i64 xn) ∧ Grew w2 W) (refine heldBox w2 _ _ _ _ _ _ _ b0 b1 b2 b3 b4 (by repeat (first | exact Grew.refl w2 | exact GG7.out | exact GG6.out | exact GG5.out | refine Grew.drew ?_))) (first | (go_at_call 14; refine (copyG a av _ (HA.out.mono (G2.out.trans (by repeat (first | exact Grew.refl w2 | refine Grew.drew ?_)))) HFA.out).mono ?_; rintro e w5 ⟨v5, rfl, s5, g5⟩; have GG5 := Lib.hid (show Grew w2 w5 from Grew.trans (by repeat (first | exact Grew.refl w2 | refine Grew.drew ?_)) g5); have S5 := Lib.hid s5; clear s5 g5) | (go_at_call 15; refine (cloneG l _ _ (HL.out.mono (G2.out.trans (by repeat (first | exact GG5.out | refine Grew.drew ?_)))) hll).mono ?_; rintro e w6 ⟨v6, rfl, s6, g6⟩; have GG6 := Lib.hid (show Grew w2 w6 from Grew.trans (by repeat (first | exact GG5.out | refine Grew.drew ?_)) g6); have S56 := Lib.hid (S5.out.mono (Grew.trans (by repeat (first | exact Grew.refl w5 | refine Grew.drew ?_)) g6)); have S6 := Lib.hid s6; clear s6 g6) | (go_at_call 19; refine (KA.out _ v5 v6 (G2.out.trans (by repeat (first | exact GG6.out | refine Grew.drew ?_))) HFA.out (S56.out.mono (by repeat (first | exact Grew.refl w6 | refine Grew.drew ?_))) (S6.out.mono (by repeat (first | exact Grew.refl w6 | refine Grew.drew ?_))) hll).mono ?_; rintro e w7 ⟨v7, rfl, s7, g7, -⟩; have GG7 := Lib.hid (show Grew w2 w7 from Grew.trans (by repeat (first | exact GG6.out | refine Grew.drew ?_)) g7); have S7 := Lib.hid s7; clear s7 g7))
  clear S5 S56 S6 KA
  by_cases hae : ae = 0
  case neg =>
    have hae' : (ae != 0) = true := by simpa using hae
    have hm := HBAD.out hae
    subst hm
    obtain ⟨A7, c7, rfl, -, -, -⟩ := S7.out.open_
    clear hae
    go_wp2
    go_ret
    exact ⟨rfl, G2.out.trans GG7.out⟩
  subst hae
  obtain ⟨hR, hR2, hmt, hme⟩ := HOK.out rfl
  obtain rfl : m = IL := (Prod.mk.inj hme).1
  have HR := Lib.hid hR
  have HR2 := Lib.hid hR2
  have HMT := Lib.hid hmt
  have hm256 : m.length ≤ 257 := Nat.le_trans hR2.2.1 (by omega)
  have GW7 := Lib.hid (G2.out.trans GG7.out)
  have HB7 := Lib.hid (And.intro (keep_cell GG7.out b0) (And.intro (keep_cell GG7.out b1) (And.intro (keep_cell GG7.out b2) (And.intro (keep_cell GG7.out b3) (keep_cell GG7.out b4)))))
  clear hR hR2 hmt hme HOK HBAD b0 b1 b2 b3 b4 HB2 GG5 GG6 GG7
  obtain ⟨A7, c7, rfl, hlc7, hcm7, -⟩ := S7.out.open_
  unfold maxLen at hcm hcm7
  go_wp2_with fail
  refine (copyG a av _ (HA.out.mono GW7.out) HFA.out).mono ?_
  rintro e w8 ⟨v8, rfl, s8, g8⟩
  have GW8 := Lib.hid (GW7.out.trans g8)
  have G78 := Lib.hid g8
  have S8 := Lib.hid s8
  clear s8 g8
  dsimp only
  go_wp2_with fail
  refine (cloneG m _ _ (S7.out.mono G78.out) hm256).mono ?_
  rintro e w9 ⟨v9, rfl, s9, g9⟩
  have GW9 := Lib.hid (GW8.out.trans g9)
  have G79 := Lib.hid (G78.out.trans g9)
  have S89 := Lib.hid (S8.out.mono g9)
  have S9 := Lib.hid s9
  clear s9 g9 S8
  dsimp only
  go_wp2_with fail
  have kC := rCheck a m _ _ w9 (HE.out.mono GW9.out) S89.out HFA.out.au S9.out
  rw [relCheck_ok HR2.out] at kC
  refine kC.mono ?_
  rintro e w10 ⟨rfl, g10⟩
  have GW10 := Lib.hid (GW9.out.trans g10)
  have G710 := Lib.hid (G79.out.trans g10)
  clear g10 kC S89 S9
  dsimp only
  go_wp2_with fail
  refine (copyG a av _ (HA.out.mono GW10.out) HFA.out).mono ?_
  rintro e w11 ⟨v11, rfl, s11, g11⟩
  have GW11 := Lib.hid (GW10.out.trans g11)
  have G1011 := Lib.hid g11
  have S11 := Lib.hid s11
  clear s11 g11
  dsimp only
  go_wp2_with fail
  refine (cloneG l _ _ (HL.out.mono GW11.out) hll).mono ?_
  rintro e w12 ⟨v12, rfl, s12, g12⟩
  have GW12 := Lib.hid (GW11.out.trans g12)
  have G1012 := Lib.hid (G1011.out.trans g12)
  have S1112 := Lib.hid (S11.out.mono g12)
  have S12 := Lib.hid s12
  clear s12 g12 S11
  dsimp only
  go_wp2_with fail
  have kH := rHolders a l unit role day _ _ w12 (HE.out.mono GW12.out) S1112.out HFA.out.au S12.out (by omega)
  rw [holders_of HR.out] at kH
  have kH2 := fun W v v' (hW : Grew w W) (h1 : SlAu W v a) (h2 : SlR W v' m) => rHolders a m unit role day v v' W (HE.out.mono hW) h1 HFA.out.au h2 (by omega)
  rw [holders_of HR2.out] at kH2
  generalize rangedF role day = rq at kH kH2
  have hla : (holdersF m unit role day).length ≤ 1000000 := Nat.le_trans (holdersF_len m unit role day) (by omega)
  generalize hBE : holdersF l unit role day = BE at kH
  generalize hAF : holdersF m unit role day = AF at kH2 hla
  rw [hBE, hAF] at HO1
  rw [hAF] at HO2
  rw [hBE] at HO3
  rw [hBE, hAF] at HO4
  clear hBE hAF
  have KH := Lib.hid kH
  have KH2 := Lib.hid kH2
  clear kH kH2
  by_cases hrq : rq = 0
  case neg =>
    have hrq' : (rq != 0) = true := by simpa using hrq
    refine KH.out.mono ?_
    rw [if_neg hrq]
    rintro e w13 ⟨v13, rfl, s13, g13⟩
    have GW13 := Lib.hid (GW12.out.trans g13)
    have G713 := Lib.hid ((G710.out.trans G1012.out).trans g13)
    clear g13 s13 S1112 S12
    dsimp only
    go_wp2_with fail
    refine (copyG a av _ (HA.out.mono GW13.out) HFA.out).mono ?_
    rintro e w14 ⟨v14, rfl, s14, g14⟩
    have GW14 := Lib.hid (GW13.out.trans g14)
    have G1314 := Lib.hid g14
    have S14 := Lib.hid s14
    clear s14 g14
    dsimp only
    go_wp2_with fail
    refine (cloneG m _ _ (S7.out.mono (G713.out.trans G1314.out)) hm256).mono ?_
    rintro e w15 ⟨v15, rfl, s15, g15⟩
    have GW15 := Lib.hid (GW14.out.trans g15)
    have G1315 := Lib.hid (G1314.out.trans g15)
    have S1415 := Lib.hid (S14.out.mono g15)
    have S15 := Lib.hid s15
    clear s15 g15 S14
    dsimp only
    go_wp2_with fail
    refine (KH2.out _ _ _ GW15.out S1415.out S15.out).mono ?_
    rw [if_neg hrq]
    rintro e w16 ⟨v16, rfl, s16, g16⟩
    obtain ⟨A16, c16, rfl, -, -, -⟩ := s16.open_
    have GW16 := Lib.hid (GW15.out.trans g16)
    clear g16 s16 S1415 S15 hrq KH KH2
    dsimp only
    rw [HLEN.out]
    go_wp2
    go_ret
    exact ⟨rfl, GW16.out⟩
  subst hrq
  refine KH.out.mono ?_
  first | rw [if_pos rfl] | rw [if_pos trivial]
  rintro e w13 ⟨v13, rfl, s13, g13⟩
  have GW13 := Lib.hid (GW12.out.trans g13)
  have G713 := Lib.hid ((G710.out.trans G1012.out).trans g13)
  have S13 := Lib.hid s13
  clear g13 s13 S1112 S12
  dsimp only
  go_wp2_with fail
  refine (copyG a av _ (HA.out.mono GW13.out) HFA.out).mono ?_
  rintro e w14 ⟨v14, rfl, s14, g14⟩
  have GW14 := Lib.hid (GW13.out.trans g14)
  have G1314 := Lib.hid g14
  have S14 := Lib.hid s14
  clear s14 g14
  dsimp only
  go_wp2_with fail
  refine (cloneG m _ _ (S7.out.mono (G713.out.trans G1314.out)) hm256).mono ?_
  rintro e w15 ⟨v15, rfl, s15, g15⟩
  have GW15 := Lib.hid (GW14.out.trans g15)
  have G1315 := Lib.hid (G1314.out.trans g15)
  have S1415 := Lib.hid (S14.out.mono g15)
  have S15 := Lib.hid s15
  clear s15 g15 S14
  dsimp only
  go_wp2_with fail
  refine (KH2.out _ _ _ GW15.out S1415.out S15.out).mono ?_
  first | rw [if_pos rfl] | rw [if_pos trivial]
  rintro e w16 ⟨v16, rfl, s16, g16⟩
  have GW16 := Lib.hid (GW15.out.trans g16)
  have G1316 := Lib.hid (G1315.out.trans g16)
  have G716 := Lib.hid (G713.out.trans G1316.out)
  have S16 := Lib.hid s16
  have S1316 := Lib.hid (S13.out.mono G1316.out)
  obtain ⟨b0, b1, b2, b3, b4⟩ := HB7.out
  have d0 := keep_cell G716.out b0
  have d1 := keep_cell G716.out b1
  have d2 := keep_cell G716.out b2
  have d3 := keep_cell G716.out b3
  have d4 := keep_cell G716.out b4
  clear g16 s16 S1415 S15 KH KH2 b0 b1 b2 b3 b4
  dsimp only
  rw [HLEN.out]
  by_cases hon : unit = xu ∧ role = xr ∧ xf ≤ day ∧ day < xn
  case neg =>
    have he := HO1.out (decide_eq_false hon)
    subst he
    clear HO1 HO2 HO3 HO4
    cases a1 : (unit != xu) <;> cases a2 : (role != xr) <;> cases a3 : decide (day < xf) <;> cases a4 : decide (xn ≤ day)
    case' false.false.false.false => exact absurd ⟨by simpa using a1, by simpa using a2, by simpa using a3, by simpa using a4⟩ hon
    all_goals clear hon
    all_goals go_wp2_with fail
    all_goals refine (equalI AF AF _ _ _ S1316.out S16.out).mono ?_
    all_goals rintro e w17 ⟨rfl, g17⟩
    all_goals simp only [decide_true]
    all_goals go_wp2
    all_goals go_ret
    all_goals exact ⟨rfl, GW16.out.trans g17⟩
  have h2 := HO2.out (decide_eq_true hon)
  have h3 := HO3.out HMT.out (decide_eq_true hon)
  have h4 := HO4.out HMT.out (decide_eq_true hon)
  obtain ⟨rfl, rfl, hon1, hon2⟩ := hon
  have a1 : (unit != unit) = false := by simp
  have a2 : (role != role) = false := by simp
  have a3 : decide (day < xf) = false := by simp; omega
  have a4 : decide (xn ≤ day) = false := by simp; omega
  have KD := Lib.hid (fun w' v h g => delG AF xa w.heap.size w16 w' v h g d2)
  rw [← h4] at KD
  have C1 := Lib.hid (show (AF.any fun y => (xa == y)) = true by rw [any_eq_mem]; simpa using h2)
  have C2 := Lib.hid (show (BE.any fun y => (xa == y)) = false by rw [any_eq_mem]; simpa using h3)
  clear HO1 HO2 HO3 HO4 h2 h3 h4 HB7
  go_wp2_with fail
  refine (cloneIG AF _ _ S16.out hla).mono ?_
  rintro e w17 ⟨v17, rfl, o17, g17⟩
  have O17 := Lib.hid o17
  have G17 := Lib.hid g17
  clear o17 g17
  dsimp only
  go_wp2_with fail
  refine (KD.out _ _ O17.out G17.out).mono ?_
  rintro e w18 ⟨v18, rfl, s18, g18⟩
  have S18 := Lib.hid s18
  have G18 := Lib.hid g18
  have f2 := keep_cell g18 d2
  clear s18 g18 O17 G17 d0 d1 d2 d3 d4
  dsimp only
  have K1 := Lib.hid (containsI AF xa _ w18 (S16.out.mono G18.out))
  rw [C1.out] at K1
  have K2 := Lib.hid (containsI BE xa _ w18 (S1316.out.mono G18.out))
  rw [C2.out] at K2
  go_wp2_with fail
  refine K1.out.mono ?_
  rintro e w19 ⟨rfl, rfl⟩
  dsimp only
  go_wp2_with fail
  refine K2.out.mono ?_
  rintro e w19 ⟨rfl, rfl⟩
  dsimp only
  go_wp2_with fail
  refine (equalI BE BE _ _ _ (S1316.out.mono G18.out) S18.out).mono ?_
  rintro e w19 ⟨rfl, g19⟩
  simp only [decide_true]
  go_wp2
  go_ret
  exact ⟨rfl, GW16.out.trans (G18.out.trans g19)⟩
end Go.Proofs.YtfghbendiofbeaaGreatDoor
