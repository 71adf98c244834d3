/- The statement on ending, walked: it returns true at every input and changes no block that lay before. The condition: the library's own variables hold what they must. -/
import Derived.Test.YtfghbendiofbeaaGreatDoorLBothQ
import Derived.Test.YtfghbendiofbeaaGreatDoorQ27
import Derived.Test.YtfghbendiofbeaaGreatDoorH4Q
import Derived.Test.YtfghbendiofbeaaGreatDoorDel2Q
import Derived.Deep.RegionHeld3
namespace Go.Proofs.YtfghbendiofbeaaGreatDoor
open Go.RowKit

theorem enters_ends1 : ∀ args w, (callFunc 34 args).run Tryz.prog w = .ok (.enter 34 args) w := enters_of Tryz.func34 (by kernel_rfl) rfl
theorem ends1 (n z : Int) (B : Nat) (W : World) (h : W.cell? ⟨B, 2, none⟩ = some (.int .i64 z)) : Calls Tryz.prog 34 (#[.int .i64 n] ++ #[.pointer (some ⟨B, 0, none⟩)]) W fun e w' => e = .returned (.bool (n == z)) ∧ Grew W w' := by
  show Calls Tryz.prog 34 #[.int .i64 n, .pointer (some ⟨B, 0, none⟩)] W _
  go_enter Tryz.func34, Tryz.ntmps34
  go_wp2
  go_ret
  exact ⟨rfl, Grew.refl _⟩
def DelEndW (l m : List Int) (u : Value) (w0 : World) (e : Ending) (w' : World) : Prop := ∃ v, e = .returned v ∧ SlI w' v l ∧ SlI w' u m ∧ Grew w0 w'
/-- The holders without one authority, on a row of the call's own; another row is as it was. -/
theorem delW (l m : List Int) (z : Int) (B : Nat) (w0 w1 w : World) (v u : Value) (hown : w.ownsRow w0.heap.size 3 1 v l.length (l.flatMap oneI)) (hg : Grew w0 w) (hB : w0.cell? ⟨B, 2, none⟩ = some (.int .i64 z)) (hu : SlI w u m) (hlow : ∀ b, v.ownBlock = some b → b < w1.heap.size) (huf : Fresh w1.heap.size u) :
    Calls Tryz.prog 33 #[v, .func (.func 34) #[] #[.pointer (some ⟨B, 0, none⟩)]] w (DelEndW (l.filter fun n => !(n == z)) m u w0) := by
  have hlt := World.block_lt_of_cell? w0 _ hB
  refine (deleteFuncW l (fun n => n == z) _ #[.pointer (some ⟨B, 0, none⟩)] enters_ends1 w0.heap.size v w hg.size hown (fun W n hW _ => ends1 n z B W (((Below.cell (Below.trans hg hW) hlt)).trans hB))).mono ?_
  rintro e w' ⟨v', rfl, ho, hb, hk⟩
  exact ⟨v', rfl, Rd.of_own ho, hk.rd hu (fun b hb' e => by have := huf b hb'; have := hlow b e; omega), Below.trans hg hb⟩
theorem u8_nat {x : Int} (h : (Lit.int .u8 x).wf = true) : ∃ n : Nat, x = n ∧ n < 256 := by
  have h2 : 0 ≤ x ∧ x ≤ 255 := by simpa [Lit.wf, IntKind.min, IntKind.max, IntKind.signed, IntKind.bits] using h
  exact ⟨x.toNat, by omega, by omega⟩
/-- The relation that is ended, as the statement takes it. -/
theorem on_cut {x : Rel} {u r d en : Int} (_h1 : x.fr < en) (h2 : en ≤ x.un) (hn : ¬ (u = x.unit ∧ r = x.role ∧ en ≤ d ∧ d < x.un)) : relOn u r d x = relOn u r d (cutR x en) := by
  rw [Bool.eq_iff_iff, relOn_t, relOn_t]
  unfold cutR
  dsimp only
  constructor
  · rintro ⟨a, b, c, e⟩; refine ⟨a, b, c, ?_⟩; by_cases hd : d < en
    · exact hd
    · exact absurd ⟨a.symm, b.symm, by omega, e⟩ hn
  · rintro ⟨a, b, c, e⟩; exact ⟨a, b, c, by omega⟩
set_option maxHeartbeats 16000000 in
set_option maxRecDepth 100000 in
theorem ends_walk (a : List Auth) (l : List Rel) (n : Nat) (en unit role day : Int) (av lv : Value) (w : World) (hn : n < 256) (hE : Env w) (ha : SlAu w av a) (hl : SlR w lv l) :
    Calls Tryz.prog 8 #[av, lv, .int .u8 n, .int .i64 en, .int .i64 unit, .int .i64 role, .int .i64 day] w (YesG w) := by
  have KF := Lib.hid (fun W (hW : Grew w W) => few26_any a l av lv W (ha.mono hW) (hl.mono hW))
  have HE := Lib.hid hE
  have HA := Lib.hid ha
  have HL := Lib.hid hl
  have KE := Lib.hid (fun (x : Rel) W av' lv' (hW : Grew w W) (h1 : FewA a) (h2 : SlAu W av' a) (h3 : SlR W lv' l) (h4 : l.length ≤ 257) => rEnd a l x en av' lv' W (hE.mono hW) h2 h1.au h3 (by omega))
  obtain ⟨Al, cl, rfl, hlc, hcm, hcell⟩ := hl.open_
  unfold maxLen at hcm
  have HR := Lib.hid hcell
  clear hE ha hl hcell
  go_enter Tryz.func8, Tryz.ntmps8
  go_wp2_with fail
  refine (awake26 _ HE.out).mono ?_
  rintro e w1 ⟨rfl, g1⟩
  have G1 := Lib.hid g1
  clear g1
  dsimp only
  go_wp2_with fail
  refine (KF.out _ G1.out).mono ?_
  rintro e w2 ⟨q, rfl, hq, g2⟩
  have G2 := Lib.hid (G1.out.trans g2)
  have HQ := Lib.hid hq
  clear g2 hq
  dsimp only
  cases q
  case false =>
    go_wp2_with fail
    refine (awake26 _ (HE.out.mono G2.out)).mono ?_
    rintro e w3 ⟨rfl, g3⟩
    dsimp only
    go_wp2
    go_ret
    exact ⟨rfl, G2.out.trans g3⟩
  obtain ⟨hfa, hll⟩ := HQ.out (by first | rfl | trivial)
  have HFA := Lib.hid hfa
  clear hfa HQ
  by_cases hl0 : l.length = 0
  · have hl0' : ((l.length : Int) == 0) = true := by rw [hl0]; rfl
    clear hl0
    go_wp2_with fail
    refine (awake26 _ (HE.out.mono G2.out)).mono ?_
    rintro e w3 ⟨rfl, g3⟩
    dsimp only
    go_wp2
    go_ret
    exact ⟨rfl, G2.out.trans g3⟩
  have hl0' : ((l.length : Int) == 0) = false := by rw [beq_eq_false_iff_ne]; omega
  have hpos : 0 < l.length := by omega
  have hposz : (0 : Int) < (l.length : Int) := by omega
  have hkl : n % l.length < l.length := Nat.mod_lt _ hpos
  have hmod : (n : Int) % (l.length : Int) = ((n % l.length : Nat) : Int) := by omega
  have hmod2 : (n : Int).tmod (l.length : Int) = ((n % l.length : Nat) : Int) := by rw [Int.tmod_eq_emod_of_nonneg (by omega)]; exact hmod
  have hkz : ((n % l.length : Nat) : Int) < (l.length : Int) := by omega
  have hk0 : (0 : Int) ≤ ((n % l.length : Nat) : Int) := by omega
  obtain ⟨b, off, rfl, hb, hcell⟩ := HR.out hpos
  obtain ⟨c0, c1, c2, c3, c4⟩ := hcell w2 G2.out (n % l.length) hkl
  have HXM := Lib.hid (show l[n % l.length]? = some l[n % l.length] from List.getElem?_eq_getElem hkl)
  generalize l[n % l.length] = x at c0 c1 c2 c3 c4 HXM
  generalize n % l.length = k at hkl hmod hmod2 hkz hk0 c0 c1 c2 c3 c4 HXM
  have hok := @end_ok a l x en
  have hbad := @end_bad a l x en
  have hoth := fun k u r d => @end_other l x k en u r d
  have hthe := fun k d => @end_there a l x k en d
  have hcut := fun u r d => @on_cut x u r d en
  have kE := KE.out x
  generalize endR a l x en = RE at kE hok hbad
  obtain ⟨m, ee⟩ := RE
  unfold Rel.agg at kE
  obtain ⟨xu, xr, xa, xf, xn⟩ := x
  dsimp only at kE hok hbad hoth hthe hcut c0 c1 c2 c3 c4
  have KE2 := Lib.hid kE
  have HOK := Lib.hid hok
  have HBAD := Lib.hid hbad
  have HOTH := Lib.hid hoth
  have HTHE := Lib.hid hthe
  have HCUT := Lib.hid hcut
  clear kE hok hbad hoth hthe hcut KE hcell HR hl0
  go_wp2_with fail
  have b0 := new_cell (Grew.refl (w2.alloc (.cells #[.int .i64 xu, .int .i64 xr, .int .i64 xa, .int .i64 xf, .int .i64 xn] 27))) 0 _ rfl
  have b1 := new_cell (Grew.refl (w2.alloc (.cells #[.int .i64 xu, .int .i64 xr, .int .i64 xa, .int .i64 xf, .int .i64 xn] 27))) 1 _ rfl
  have b2 := new_cell (Grew.refl (w2.alloc (.cells #[.int .i64 xu, .int .i64 xr, .int .i64 xa, .int .i64 xf, .int .i64 xn] 27))) 2 _ rfl
  have b3 := new_cell (Grew.refl (w2.alloc (.cells #[.int .i64 xu, .int .i64 xr, .int .i64 xa, .int .i64 xf, .int .i64 xn] 27))) 3 _ rfl
  have b4 := new_cell (Grew.refl (w2.alloc (.cells #[.int .i64 xu, .int .i64 xr, .int .i64 xa, .int .i64 xf, .int .i64 xn] 27))) 4 _ rfl
  have G3 := Lib.hid (G2.out.alloc (.cells #[.int .i64 xu, .int .i64 xr, .int .i64 xa, .int .i64 xf, .int .i64 xn] 27))
  clear c0 c1 c2 c3 c4 hmod hmod2 hkz hk0
  generalize w2.alloc (.cells #[.int .i64 xu, .int .i64 xr, .int .i64 xa, .int .i64 xf, .int .i64 xn] 27) = w3 at b0 b1 b2 b3 b4 G3 ⊢
  generalize w2.heap.size = B at b0 b1 b2 b3 b4 ⊢
  go_region_held3 (fun W => W.cell? ⟨B, 0, none⟩ = some (.int .i64 xu) ∧ W.cell? ⟨B, 1, none⟩ = some (.int .i64 xr) ∧ W.cell? ⟨B, 2, none⟩ = some (.int .i64 xa) ∧ W.cell? ⟨B, 3, none⟩ = some (.int .i64 xf) ∧ W.cell? ⟨B, 4, none⟩ = some (.int .i64 xn) ∧ Grew w3 W) (refine heldBox w3 _ _ _ _ _ _ _ b0 b1 b2 b3 b4 (by repeat (first | exact Grew.refl w3 | exact GG7.out | exact GG6.out | exact GG5.out | refine Grew.drew ?_))) (first | (go_at_call 14; refine (copyG a av _ (HA.out.mono (G3.out.trans (by repeat (first | exact Grew.refl w3 | refine Grew.drew ?_)))) HFA.out).mono ?_; rintro e w5 ⟨v5, rfl, s5, g5⟩; have GG5 := Lib.hid (show Grew w3 w5 from Grew.trans (by repeat (first | exact Grew.refl w3 | refine Grew.drew ?_)) g5); have S5 := Lib.hid s5; clear s5 g5) | (go_at_call 15; refine (cloneG l _ _ (HL.out.mono (G3.out.trans (by repeat (first | exact GG5.out | refine Grew.drew ?_)))) hll).mono ?_; rintro e w6 ⟨v6, rfl, s6, g6⟩; have GG6 := Lib.hid (show Grew w3 w6 from Grew.trans (by repeat (first | exact GG5.out | refine Grew.drew ?_)) g6); have S56 := Lib.hid (S5.out.mono (Grew.trans (by repeat (first | exact Grew.refl w5 | refine Grew.drew ?_)) g6)); have S6 := Lib.hid s6; clear s6 g6) | (go_at_call 21; refine (KE2.out _ v5 v6 (G3.out.trans (by repeat (first | exact GG6.out | refine Grew.drew ?_))) HFA.out (S56.out.mono (by repeat (first | exact Grew.refl w6 | refine Grew.drew ?_))) (S6.out.mono (by repeat (first | exact Grew.refl w6 | refine Grew.drew ?_))) hll).mono ?_; rintro e w7 ⟨v7, rfl, s7, g7, -⟩; have GG7 := Lib.hid (show Grew w3 w7 from Grew.trans (by repeat (first | exact GG6.out | refine Grew.drew ?_)) g7); have S7 := Lib.hid s7; clear s7 g7))
  clear S5 S56 S6 KE2
  by_cases hee : ee = 0
  case neg =>
    have hee' : (ee != 0) = true := by simpa using hee
    have hm := HBAD.out hee
    subst hm
    obtain ⟨A7, c7, rfl, -, -, -⟩ := S7.out.open_
    clear hee
    go_wp2
    go_ret
    exact ⟨rfl, G3.out.trans GG7.out⟩
  subst hee
  obtain ⟨hR, kk, hkk, h1, h2, hR2, hme⟩ := HOK.out rfl
  have hml : m = l.set kk (cutR ⟨xu, xr, xa, xf, xn⟩ en) := (Prod.mk.inj hme).1
  have hlen : m.length = l.length := by rw [hml, List.length_set]
  rw [← hml] at hR2
  have hoth := fun u r d h => HOTH.out kk u r d hkk h
  rw [← hml] at hoth
  have hthe := fun d h3 h4 => HTHE.out kk d hR hkk h1 h3 h4
  rw [← hml] at hthe
  have hcut := fun u r d h => hoth u r d (HCUT.out u r d h1 h2 h)
  have HR := Lib.hid hR
  have HR2 := Lib.hid hR2
  have HC := Lib.hid (hcut unit role day)
  have HT := Lib.hid (hthe day)
  have HLEN := Lib.hid hlen
  have hm256 : m.length ≤ 257 := by omega
  have GW7 := Lib.hid (G3.out.trans GG7.out)
  have HB7 := Lib.hid (And.intro (keep_cell GG7.out b0) (And.intro (keep_cell GG7.out b1) (And.intro (keep_cell GG7.out b2) (And.intro (keep_cell GG7.out b3) (keep_cell GG7.out b4)))))
  clear hR hR2 hme hml hlen hoth hthe hcut hkk h1 h2 HOK HBAD HOTH HTHE HCUT HXM b0 b1 b2 b3 b4 GG5 GG6 GG7
  obtain ⟨A7, c7, rfl, hlc7, hcm7, -⟩ := S7.out.open_
  unfold maxLen at hcm7
  go_wp2_with fail
  refine (copyG a av _ (HA.out.mono GW7.out) HFA.out).mono ?_
  rintro e w8 ⟨v8, rfl, s8, g8⟩
  have GW8 := Lib.hid (GW7.out.trans g8)
  have G78 := Lib.hid g8
  have S8 := Lib.hid s8
  clear s8 g8
  dsimp only
  go_wp2_with fail
  refine (cloneG m _ _ (S7.out.mono G78.out) hm256).mono ?_
  rintro e w9 ⟨v9, rfl, s9, g9⟩
  have GW9 := Lib.hid (GW8.out.trans g9)
  have G79 := Lib.hid (G78.out.trans g9)
  have S89 := Lib.hid (S8.out.mono g9)
  have S9 := Lib.hid s9
  clear s9 g9 S8
  dsimp only
  go_wp2_with fail
  have kC := rCheck a m _ _ w9 (HE.out.mono GW9.out) S89.out HFA.out.au S9.out
  rw [relCheck_ok HR2.out] at kC
  refine kC.mono ?_
  rintro e w10 ⟨rfl, g10⟩
  have GW10 := Lib.hid (GW9.out.trans g10)
  have G710 := Lib.hid (G79.out.trans g10)
  clear g10 kC S89 S9
  dsimp only
  go_wp2_with fail
  refine (copyG a av _ (HA.out.mono GW10.out) HFA.out).mono ?_
  rintro e w11 ⟨v11, rfl, s11, g11⟩
  have GW11 := Lib.hid (GW10.out.trans g11)
  have G1011 := Lib.hid g11
  have S11 := Lib.hid s11
  clear s11 g11
  dsimp only
  go_wp2_with fail
  refine (cloneG l _ _ (HL.out.mono GW11.out) hll).mono ?_
  rintro e w12 ⟨v12, rfl, s12, g12⟩
  have GW12 := Lib.hid (GW11.out.trans g12)
  have G1012 := Lib.hid (G1011.out.trans g12)
  have S1112 := Lib.hid (S11.out.mono g12)
  have S12 := Lib.hid s12
  clear s12 g12 S11
  dsimp only
  go_wp2_with fail
  have kH := rHoldersW a l unit role day _ _ w12 (HE.out.mono GW12.out) S1112.out HFA.out.au S12.out (by omega)
  rw [holders_of HR.out] at kH
  have kH2 := fun W v v' (hW : Grew w W) (h1 : SlAu W v a) (h2 : SlR W v' m) => rHoldersW a m unit role day v v' W (HE.out.mono hW) h1 HFA.out.au h2 (by omega)
  rw [holders_of HR2.out] at kH2
  generalize rangedF role day = rq at kH kH2
  generalize hBE : holdersF l unit role day = BE at kH
  generalize hAF : holdersF m unit role day = AF at kH2
  rw [hBE, hAF] at HC
  have HT2 : RowKit.Hid (unit = xu → role = xr → en ≤ day → day < xn → (BE.filter fun n => !(n == xa)) = AF) := fun h1 h2 h3 h4 => by
    subst h1 h2
    rw [← hBE, ← hAF]
    exact HT.out h3 h4
  clear hBE hAF HT
  have hif : ∀ L : List Int, (if rq = 0 then (L, (0 : Int)) else ([], rq)) = ((if rq = 0 then L else []), rq) := fun L => by split <;> simp [*]
  rw [hif] at kH kH2
  have HC3 : RowKit.Hid (¬ (unit = xu ∧ role = xr ∧ en ≤ day ∧ day < xn) → (if rq = 0 then BE else []) = (if rq = 0 then AF else [])) := fun h => by rw [HC.out h]
  have HT3 : RowKit.Hid (unit = xu → role = xr → en ≤ day → day < xn → ((if rq = 0 then BE else []).filter fun n => !(n == xa)) = (if rq = 0 then AF else [])) := fun h1 h2 h3 h4 => by
    split
    · exact HT2.out h1 h2 h3 h4
    · rfl
  clear hif HC HT2
  generalize (if rq = 0 then BE else []) = BL at kH HC3 HT3
  generalize (if rq = 0 then AF else []) = AL at kH2 HC3 HT3
  have KH := Lib.hid kH
  have KH2 := Lib.hid kH2
  clear kH kH2
  refine KH.out.mono ?_
  rintro e w13 ⟨v13, rfl, s13, g13⟩
  dsimp only at s13
  have O13 := Lib.hid s13
  have GW13 := Lib.hid (GW12.out.trans g13)
  have G713 := Lib.hid ((G710.out.trans G1012.out).trans g13)
  have G1213 := Lib.hid g13
  obtain ⟨b0, b1, b2, b3, b4⟩ := HB7.out
  have HB12 := Lib.hid (keep_cell (G710.out.trans G1012.out) b2)
  clear g13 s13 S1112 S12 b0 b1 b2 b3 b4
  dsimp only
  go_wp2_with fail
  refine (copyG a av _ (HA.out.mono GW13.out) HFA.out).mono ?_
  rintro e w14 ⟨v14, rfl, s14, g14⟩
  have GW14 := Lib.hid (GW13.out.trans g14)
  have G1314 := Lib.hid g14
  have S14 := Lib.hid s14
  clear s14 g14
  dsimp only
  go_wp2_with fail
  refine (cloneG m _ _ (S7.out.mono (G713.out.trans G1314.out)) hm256).mono ?_
  rintro e w15 ⟨v15, rfl, s15, g15⟩
  have GW15 := Lib.hid (GW14.out.trans g15)
  have G1315 := Lib.hid (G1314.out.trans g15)
  have S1415 := Lib.hid (S14.out.mono g15)
  have S15 := Lib.hid s15
  clear s15 g15 S14
  dsimp only
  go_wp2_with fail
  refine (KH2.out _ _ _ GW15.out S1415.out S15.out).mono ?_
  rintro e w16 ⟨v16, rfl, s16, g16⟩
  dsimp only at s16
  have O16 := Lib.hid s16
  have GW16 := Lib.hid (GW15.out.trans g16)
  have G1316 := Lib.hid (G1315.out.trans g16)
  obtain ⟨b0, b1, b2, b3, b4⟩ := HB7.out
  have d0 := keep_cell (G713.out.trans G1316.out) b0
  have d1 := keep_cell (G713.out.trans G1316.out) b1
  have d4 := keep_cell (G713.out.trans G1316.out) b4
  have S13 := Lib.hid (show SlI w16 v13 BL from Rd.of_own (own_later O13.out G1316.out))
  have S16 := Lib.hid (show SlI w16 v16 AL from Rd.of_own O16.out)
  have KD := Lib.hid (delW BL AL xa B w12 w13 w16 v13 v16 (own_later O13.out G1316.out) (G1213.out.trans G1316.out) HB12.out S16.out (fun b hb => (O13.out.lt b hb).2) (Fresh.le (Fresh.own O16.out) (by have := G1315.out.size; omega)))
  have GW12' := Lib.hid GW12.out
  clear g16 s16 S1415 S15 KH KH2 b0 b1 b2 b3 b4 HB7 HB12
  dsimp only
  rw [HLEN.out]
  have hrr : (rq != rq) = false := by simp
  by_cases hon : unit = xu ∧ role = xr ∧ en ≤ day ∧ day < xn
  case neg =>
    have he := HC3.out hon
    subst he
    clear HC3 HT3 KD
    cases a1 : (unit == xu) <;> cases a2 : (role == xr) <;> cases a3 : decide (en ≤ day) <;> cases a4 : decide (day < xn)
    case' true.true.true.true => exact absurd ⟨by simpa using a1, by simpa using a2, by simpa using a3, by simpa using a4⟩ hon
    all_goals clear hon
    all_goals go_wp2_with fail
    all_goals refine (equalI BL BL _ _ _ S13.out S16.out).mono ?_
    all_goals rintro e w17 ⟨rfl, g17⟩
    all_goals simp only [decide_true]
    all_goals go_wp2
    all_goals go_ret
    all_goals exact ⟨rfl, GW16.out.trans g17⟩
  obtain ⟨rfl, rfl, hon1, hon2⟩ := hon
  have h4 := HT3.out rfl rfl hon1 hon2
  rw [h4] at KD
  have a1 : (unit == unit) = true := by simp
  have a2 : (role == role) = true := by simp
  have a3 : decide (en ≤ day) = true := by simpa using hon1
  have a4 : decide (day < xn) = true := by simpa using hon2
  clear h4 HC3 HT3
  go_wp2_with fail
  refine KD.out.mono ?_
  rintro e w18 ⟨v18, rfl, s18, t18, g18⟩
  have S18 := Lib.hid s18
  have T18 := Lib.hid t18
  have G18 := Lib.hid (GW12.out.trans g18)
  clear s18 t18 g18 KD
  dsimp only
  go_wp2_with fail
  refine (equalI AL AL _ _ _ S18.out T18.out).mono ?_
  rintro e w19 ⟨rfl, g19⟩
  simp only [decide_true]
  go_wp2
  go_ret
  exact ⟨rfl, G18.out.trans g19⟩
end Go.Proofs.YtfghbendiofbeaaGreatDoor
