/- Lemmas on what the functions of the program and of the library compute: Gr, B2, B3, H2, PlainS, PlainU. The conditions stand at each. -/
import Derived.Test.YtfghbendiofbeaaGreatDoorQ1
import Derived.BigQuiet
import Derived.Test.YtfghbendiofbeaaGreatDoorQ9
import Derived.Test.YtfghbendiofbeaaGreatDoorQ3
import Derived.Sort.OwnSorted
import Derived.Maps.AppendAt
/- Regions that draw their order and whose calls make memory: one walk in the order of the text, in every world that grew out of one. No condition. -/
namespace Go.Proofs.YtfghbendiofbeaaGreatDoor
open Go.RowKit

/-- A world that grew out of w. -/
structure Gr (w : World) where
  W : World
  g : Grew w W
instance (w : World) : Nonempty (Gr w) := ⟨⟨w, Grew.refl w⟩⟩
instance (w : World) : Inhabited (Gr w) := ⟨⟨w, Grew.refl w⟩⟩
theorem region_gr {P : Program} {id : Nat} {Q : Exit → Act → World → Prop} {a : Act} {w : World} {l : List Oper} (w0 : World) (hm : P.follows .mixedOrders = true) (hB : Region.lexB .any l.toArray = true) (hg : Grew w0 w)
    (h : wpQuiet P l.toArray (fun W' => ∃ i : Gr w0, W' = i.W) (fun a' => ∀ W', (∃ i : Gr w0, W' = i.W) → Q .normal a' W') l a) : (Code.region id l.toArray true).wp P Q a w :=
  wp_region_quiet (C := fun W' => ∃ i : Gr w0, W' = i.W) hm hB ⟨⟨w.drew, hg.drew⟩, rfl⟩ (by simpa using h)
theorem Gr.calls {P : Program} {f : FuncId} {args : Array Value} {w0 : World} (i : Gr w0) {v : Value} (h : Calls P f args i.W fun e w' => e = .returned v ∧ Grew i.W w') : Calls P f args i.W fun e w'' => e = .returned v ∧ ∃ j : Gr w0, w'' = j.W :=
  h.mono fun _ w' ⟨he, hg⟩ => ⟨he, ⟨w', i.g.trans hg⟩, rfl⟩
theorem Gr.same {P : Program} {f : FuncId} {args : Array Value} {w0 : World} (i : Gr w0) {v : Value} (h : Calls P f args i.W fun e w' => e = .returned v ∧ i.W = w') : Calls P f args i.W fun e w'' => e = .returned v ∧ ∃ j : Gr w0, w'' = j.W :=
  h.mono fun _ _ ⟨he, hg⟩ => ⟨he, i, hg.symm⟩
theorem Gr.cell {w0 : World} {p : Addr} {v : Value} (h : w0.cell? p = some v) : ∀ i : Gr w0, i.W.cell? p = some v := fun i => (i.g.cell (World.block_lt_of_cell? w0 _ h)).trans h
end Go.Proofs.YtfghbendiofbeaaGreatDoor

/- relation.Check, walked. The conditions: the library's own variables hold what they must; each authority has few names and successors. -/
namespace Go.Proofs.YtfghbendiofbeaaGreatDoor
open Go.RowKit

theorem relFaultAt_in (a : List Auth) (l : List Rel) (i : Nat) (h : i < l.length) : relFaultAt a l i = relFault a (prevR l i) l[i] := by
  simp [relFaultAt, h]
theorem keep_cell {W X : World} (g : Grew W X) {p : Addr} {v : Value} (h : W.cell? p = some v) : X.cell? p = some v := (g.cell (World.block_lt_of_cell? W _ h)).trans h
theorem keep10 (W X : World) (p q : Nat → Addr) (x y : Nat → Value) (h0 : W.cell? (p 0) = some (x 0)) (h1 : W.cell? (p 1) = some (x 1)) (h2 : W.cell? (p 2) = some (x 2)) (h3 : W.cell? (p 3) = some (x 3)) (h4 : W.cell? (p 4) = some (x 4))
    (k0 : W.cell? (q 0) = some (y 0)) (k1 : W.cell? (q 1) = some (y 1)) (k2 : W.cell? (q 2) = some (y 2)) (k3 : W.cell? (q 3) = some (y 3)) (k4 : W.cell? (q 4) = some (y 4)) (g : Grew W X) :
    X.cell? (p 0) = some (x 0) ∧ X.cell? (p 1) = some (x 1) ∧ X.cell? (p 2) = some (x 2) ∧ X.cell? (p 3) = some (x 3) ∧ X.cell? (p 4) = some (x 4) ∧ X.cell? (q 0) = some (y 0) ∧ X.cell? (q 1) = some (y 1) ∧ X.cell? (q 2) = some (y 2) ∧ X.cell? (q 3) = some (y 3) ∧ X.cell? (q 4) = some (y 4) ∧ Grew W X :=
  ⟨keep_cell g h0, keep_cell g h1, keep_cell g h2, keep_cell g h3, keep_cell g h4, keep_cell g k0, keep_cell g k1, keep_cell g k2, keep_cell g k3, keep_cell g k4, g⟩
set_option maxRecDepth 100000 in
set_option maxHeartbeats 8000000 in
theorem rCheck (a : List Auth) (l : List Rel) (av lv : Value) (w : World) (hE : Env w) (ha : SlAu w av a) (hf : FewAu a) (hl : SlR w lv l) :
    Calls Tryz.prog 13 #[av, lv] w fun e w' => e = .returned (.tuple #[.int .i64 (relCheck a l).1, .int .i64 (relCheck a l).2]) ∧ Grew w w' := by
  have kR := rRight a av w hE ha
  have HA := Lib.hid ha
  have HF := Lib.hid hf
  obtain ⟨A, c, rfl, hlc, hc, hr⟩ := hl.open_
  unfold maxLen at hc
  have HR := Lib.hid hr
  clear hr hl ha hf hE
  by_cases h0 : AuthRight a
  case neg =>
    have hC : relCheck a l = (-1, 1) := by simp [relCheck, h0]
    rw [hC]
    rw [decide_eq_false h0] at kR
    have KR := Lib.hid kR
    clear kR h0 hC
    go_enter Tryz.func13, Tryz.ntmps13
    go_wp2_with (first | (go_at_call 40; refine KR.out.mono ?_; rintro e w1 ⟨rfl, hg⟩))
    go_ret2
    exact ⟨rfl, hg⟩
  rw [decide_eq_true h0] at kR
  have KR := Lib.hid kR
  by_cases h1 : 256 < l.length
  · have hC : relCheck a l = (-1, 8) := by simp [relCheck, h0, h1]
    rw [hC]
    have h1' : (256 : Int) < (l.length : Int) := by omega
    clear kR h0 hC
    go_enter Tryz.func13, Tryz.ntmps13
    go_wp2_with (first | (go_at_call 40; refine KR.out.mono ?_; rintro e w1 ⟨rfl, hg⟩))
    go_ret2
    exact ⟨rfl, hg⟩
  have h1' : ¬ (256 : Int) < (l.length : Int) := by omega
  have hC : relCheck a l = findBad (relFaultAt a l) l.length 0 := by simp [relCheck, h0, h1]
  rw [hC]
  generalize hF : findBad (relFaultAt a l) l.length 0 = R
  have HFB := Lib.hid hF
  clear kR h0 hC hF h1
  go_enter Tryz.func13, Tryz.ntmps13
  go_wp2_with (first | (go_at_call 40; refine KR.out.mono ?_; rintro e w1 ⟨rfl, hg⟩))
  go_loopg [19] l.length (fun gg s19 wr => ∃ kk : Nat, kk ≤ l.length ∧ l.length - kk ≤ gg ∧ s19 = .int .i64 kk ∧ Aside (Grew w wr) ∧ Aside (∀ i, i < kk → relFaultAt a l i = 0))
  case atStart => exact ⟨0, Nat.zero_le _, by omega, rfl, hg, fun i h => absurd h (Nat.not_lt_zero _)⟩
  case round =>
    obtain ⟨kk, hkk, hgk, rfl, BW, M⟩ := hrel
    by_cases hlt : kk < l.length
    case neg =>
      have hltz : ¬ (kk : Int) < (l.length : Int) := by omega
      have Hm := Lib.hid (HFB.out.symm.trans (findBad_miss _ _ (fun j hj => M.out j (by omega))))
      go_wp2
      go_ret2
      refine ⟨?_, BW.out⟩
      rw [Hm.out]
      rfl
    have hltz : (kk : Int) < (l.length : Int) := by omega
    obtain ⟨b, off, rfl, hb, hcell⟩ := HR.out (by omega)
    have HCELL := Lib.hid hcell
    obtain ⟨c0, c1, c2, c3, c4⟩ := hcell wr BW.out kk hlt
    have hfa := relFaultAt_in a l kk hlt
    have hit : relFaultAt a l kk ≠ 0 → R = ((kk : Int), relFaultAt a l kk) := fun h => HFB.out.symm.trans (findBad_hit _ _ kk hlt M.out h)
    rw [hfa] at hit
    have HFA := Lib.hid hfa
    clear hcell hfa
    generalize hy : l[kk] = y at c0 c1 c2 c3 c4 hit HFA
    clear hy
    have kA := fun W (hW : Grew w W) => rAlone a y av W (HA.out.mono hW) HF.out
    have hFd : ∀ p, relFault a p y = if relAlone a y ≠ 0 then relAlone a y else match p with
      | none => 0
      | some u => if 0 ≤ orderR u y then 5 else if sameR u y = true ∧ y.fr < u.un then 6 else 0 := fun p => rfl
    generalize relAlone a y = al at kA hFd
    have HFD := Lib.hid hFd
    have HIT := Lib.hid hit
    have HY := Lib.hid (rOrder · y)
    have HZ := Lib.hid (rSame · y)
    unfold Rel.agg at kA
    have KA := Lib.hid kA
    have HS1 := Lib.hid (fun u => (Iff.rfl : sameR u y = true ↔ sameR u y = true))
    clear kA hFd hit
    go_wp2_with fail
    refine (KA.out _ (BW.out.alloc _)).mono ?_
    rintro e w1 ⟨rfl, g1⟩
    have HG1 := Lib.hid g1
    have HGW := Lib.hid ((BW.out.alloc _).trans g1)
    have e0 := new_cell g1 0 _ rfl
    have e1 := new_cell g1 1 _ rfl
    have e2 := new_cell g1 2 _ rfl
    have e3 := new_cell g1 3 _ rfl
    have e4 := new_cell g1 4 _ rfl
    clear g1 c0 c1 c2 c3 c4
    dsimp only
    by_cases hal : al = 0
    case neg =>
      have hal' : (al != 0) = true := by simpa using hal
      have hfv : relFault a (prevR l kk) y = al := by rw [HFD.out, if_pos hal]
      have Hr := Lib.hid (HIT.out (by rw [hfv]; exact hal))
      have Hf := Lib.hid hfv
      clear hal hfv
      go_wp2
      go_ret2
      refine ⟨?_, HGW.out⟩
      rw [Hr.out, Hf.out]
      rfl
    subst hal
    rcases Nat.eq_zero_or_pos kk with hk0 | hkpos
    · subst hk0
      have hfz : relFaultAt a l 0 = 0 := by rw [HFA.out, HFD.out]; simp [prevR]
      have Hf := Lib.hid hfz
      clear hfz HIT
      go_wp2
      go_quiet (fail)
      go_wp2
      go_quiet (fail)
      go_wp2
      go_roundg (l.length - 1)
      case measure => omega
      case rel =>
        refine ⟨1, by omega, by omega, by go_num, (show Aside _ from HGW.out.drewN _), (show Aside _ from fun i hi => ?_)⟩
        obtain rfl : i = 0 := by omega
        exact Hf.out
    · have hp1 : kk - 1 < l.length := by omega
      have hpv : prevR l kk = some l[kk - 1] := by rw [prevR, if_neg (by omega), List.getElem?_eq_getElem hp1]
      obtain ⟨d0, d1, d2, d3, d4⟩ := HCELL.out w1 HGW.out (kk - 1) hp1
      have kO := HY.out l[kk - 1]
      have kS := HZ.out l[kk - 1]
      have hfd : relFaultAt a l kk = if 0 ≤ orderR l[kk - 1] y then 5 else if sameR l[kk - 1] y = true ∧ y.fr < l[kk - 1].un then 6 else 0 := by
        rw [HFA.out, hpv, HFD.out]
        simp
      have hit2 := HIT.out
      rw [← HFA.out] at hit2
      unfold Rel.agg at kO kS
      clear hpv
      generalize l[kk - 1] = z at d0 d1 d2 d3 d4 kO kS hfd
      obtain ⟨zu, zr, za, zf, zn⟩ := z
      obtain ⟨yu, yr, ya, yf, yn⟩ := y
      dsimp only at d0 d1 d2 d3 d4 e0 e1 e2 e3 e4 kO kS hfd
      have hkz : (0 : Int) < (kk : Int) := by omega
      have hki : (0 : Int) ≤ (kk : Int) - 1 := by omega
      have hki2 : (kk : Int) - 1 < (l.length : Int) := by omega
      have hki3 : (1 : Int) ≤ (kk : Int) := by omega
      have hkt : ((kk : Int) - 1).toNat = kk - 1 := by omega
      have HMK : RowKit.Hid (relFaultAt a l kk = 0 → ∀ i, i < kk + 1 → relFaultAt a l i = 0) := fun h i hi => by
        by_cases e : i = kk
        · subst e; exact h
        · exact M.out i (by omega)
      generalize relFaultAt a l kk = fk at hfd hit2 HMK
      generalize orderR ⟨zu, zr, za, zf, zn⟩ ⟨yu, yr, ya, yf, yn⟩ = oo at kO hfd
      generalize sameR ⟨zu, zr, za, zf, zn⟩ ⟨yu, yr, ya, yf, yn⟩ = ss at kS hfd
      have KO := Lib.hid kO
      have KS := Lib.hid kS
      have HFK := Lib.hid hfd
      have HT2 := Lib.hid hit2
      clear kO kS hfd hit2 HFA HFD HIT HY HZ HS1 KA M
      have hwr : IntKind.i64.wrap ((kk : Int) - 1) = (kk : Int) - 1 := IntWalk.i64_in _ (by omega)
      by_cases a6 : 0 ≤ oo
      · have hfk : fk = 5 := by rw [HFK.out]; simp [a6]
        have Hr := Lib.hid (HT2.out (by rw [hfk]; decide))
        have Hf := Lib.hid hfk
        clear hfk
        go_wp2
        refine region_still_tail 9 (by kernel_rfl) (by kernel_rfl) ?_
        simp only [List.take_succ_cons, List.take_zero, List.drop_succ_cons, List.drop_zero]
        iterate 9 still_step
        clear hwr
        refine wpStill_nil ?_
        go_wp2_with fail
        refine (KO.out _).mono ?_
        rintro e w5 ⟨rfl, hg5⟩
        go_wp2
        go_ret2
        refine ⟨?_, HGW.out.drew.trans hg5⟩
        rw [Hr.out, Hf.out]
        rfl
      · have a6' : decide (0 ≤ oo) = false := by simpa using a6
        have hfk : fk = if ss = true ∧ yf < zn then 6 else 0 := by rw [HFK.out]; simp [a6]
        have HFK2 := Lib.hid hfk
        clear hfk a6 HFK
        go_wp2
        refine region_still_tail 9 (by kernel_rfl) (by kernel_rfl) ?_
        simp only [List.take_succ_cons, List.take_zero, List.drop_succ_cons, List.drop_zero]
        iterate 9 still_step
        clear hwr
        refine wpStill_nil ?_
        go_wp2_with fail
        refine (KO.out _).mono ?_
        rintro e w5 ⟨rfl, hg5⟩
        have HG5 := Lib.hid (HGW.out.drew.trans hg5)
        have G15 : Grew w1 w5 := (Grew.refl w1).drew.trans hg5
        have f0 := Gr.cell (keep_cell G15 d0)
        have f1 := Gr.cell (keep_cell G15 d1)
        have f2 := Gr.cell (keep_cell G15 d2)
        have f3 := Gr.cell (keep_cell G15 d3)
        have f4 := Gr.cell (keep_cell G15 d4)
        have k0 := Gr.cell (keep_cell G15 e0)
        have k1 := Gr.cell (keep_cell G15 e1)
        have k2 := Gr.cell (keep_cell G15 e2)
        have k3 := Gr.cell (keep_cell G15 e3)
        have k4 := Gr.cell (keep_cell G15 e4)
        clear hg5 G15 d0 d1 d2 d3 d4 e0 e1 e2 e3 e4
        have hwr : IntKind.i64.wrap ((kk : Int) - 1) = (kk : Int) - 1 := IntWalk.i64_in _ (by omega)
        cases ss with
        | false =>
          have hfk : fk = 0 := by rw [HFK2.out]; simp
          have Hf := Lib.hid (HMK.out hfk)
          clear hfk
          go_wp2_with fail
          refine region_gr w5 (by kernel_rfl) (by kernel_rfl) (Grew.refl _) ?_
          repeat (first | go_big_quiet_step ((go_at_call 43; exact Gr.calls _ (KS.out _))) | quiet_step ((go_at_call 43; exact Gr.calls _ (KS.out _))))
          refine wpQuiet_nil ?_
          intro _ hw'
          obtain ⟨wi, rfl⟩ := hw'
          have HWI := Lib.hid wi.g
          clear hwr f0 f1 f2 f3 f4 k0 k1 k2 k3 k4
          go_wp2
          go_roundg (l.length - (kk + 1))
          case measure => omega
          case rel => exact ⟨kk + 1, by omega, by omega, by go_num, (show Aside _ from HG5.out.trans HWI.out), (show Aside _ from Hf.out)⟩
        | true =>
          by_cases r : yf < zn
          · have hfk : fk = 6 := by rw [HFK2.out]; simp [r]
            have Hr := Lib.hid (HT2.out (by rw [hfk]; decide))
            have Hf := Lib.hid hfk
            clear hfk
            go_wp2_with fail
            refine region_gr w5 (by kernel_rfl) (by kernel_rfl) (Grew.refl _) ?_
            repeat (first | go_big_quiet_step ((go_at_call 43; exact Gr.calls _ (KS.out _))) | quiet_step ((go_at_call 43; exact Gr.calls _ (KS.out _))))
            refine wpQuiet_nil ?_
            intro _ hw'
            obtain ⟨wi, rfl⟩ := hw'
            have HWI := Lib.hid wi.g
            clear hwr f0 f1 f2 f3 f4 k0 k1 k2 k3 k4
            go_wp2
            go_ret2
            refine ⟨?_, HG5.out.trans HWI.out⟩
            rw [Hr.out, Hf.out]
            rfl
          · have r' : decide (yf < zn) = false := by simpa using r
            have hfk : fk = 0 := by rw [HFK2.out]; simp [r]
            have Hf := Lib.hid (HMK.out hfk)
            clear hfk r
            go_wp2_with fail
            refine region_gr w5 (by kernel_rfl) (by kernel_rfl) (Grew.refl _) ?_
            repeat (first | go_big_quiet_step ((go_at_call 43; exact Gr.calls _ (KS.out _))) | quiet_step ((go_at_call 43; exact Gr.calls _ (KS.out _))))
            refine wpQuiet_nil ?_
            intro _ hw'
            obtain ⟨wi, rfl⟩ := hw'
            have HWI := Lib.hid wi.g
            clear hwr f0 f1 f2 f3 f4 k0 k1 k2 k3 k4
            go_wp2
            go_roundg (l.length - (kk + 1))
            case measure => omega
            case rel => exact ⟨kk + 1, by omega, by omega, by go_num, (show Aside _ from HG5.out.trans HWI.out), (show Aside _ from Hf.out)⟩
end Go.Proofs.YtfghbendiofbeaaGreatDoor

/- relation: asks, ranged, find, walked. The conditions: the library's own variables hold what they must; the lists are short. -/
namespace Go.Proofs.YtfghbendiofbeaaGreatDoor
open Go.RowKit

theorem rAsks (a : List Auth) (l : List Rel) (av lv : Value) (w : World) (hE : Env w) (ha : SlAu w av a) (hf : FewAu a) (hl : SlR w lv l) :
    Calls Tryz.prog 53 #[av, lv] w fun e w' => e = .returned (.int .i64 (asksF a l)) ∧ Grew w w' := by
  have k := rCheck a l av lv w hE ha hf hl
  unfold asksF
  generalize relCheck a l = R at k ⊢
  obtain ⟨i, n⟩ := R
  dsimp only at k ⊢
  have K := Lib.hid k
  clear k hE ha hf hl
  by_cases h : n = 0
  · subst h
    go_enter Tryz.func53, Tryz.ntmps53
    go_wp2_with fail
    refine K.out.mono ?_
    rintro e w1 ⟨rfl, g⟩
    dsimp only
    go_wp2
    go_ret
    exact ⟨rfl, g⟩
  · have hz : (n != 0) = true := by simpa using h
    rw [if_neg h]
    clear h
    go_enter Tryz.func53, Tryz.ntmps53
    go_wp2_with fail
    refine K.out.mono ?_
    rintro e w1 ⟨rfl, g⟩
    dsimp only
    go_wp2
    go_ret
    exact ⟨rfl, g⟩
theorem rRanged (role day : Int) (w : World) : Calls Tryz.prog 60 #[.int .i64 role, .int .i64 day] w fun e w' => e = .returned (.int .i64 (rangedF role day)) ∧ w = w' := by
  unfold rangedF
  have k1 := rWithin role 1 4 w
  have k2 := rWithin day 0 1048575 w
  generalize within role 1 4 = q1 at k1 ⊢
  generalize within day 0 1048575 = q2 at k2 ⊢
  have K1 := Lib.hid k1
  have K2 := Lib.hid k2
  clear k1 k2
  cases q1 with
  | false =>
    go_enter Tryz.func60, Tryz.ntmps60
    go_wp2_with fail
    refine K1.out.mono ?_
    rintro e w1 ⟨rfl, rfl⟩
    dsimp only
    go_wp2
    go_ret
    exact ⟨rfl, rfl⟩
  | true =>
    cases q2
    all_goals
      go_enter Tryz.func60, Tryz.ntmps60
      go_wp2_with fail
      refine K1.out.mono ?_
      rintro e w1 ⟨rfl, rfl⟩
      dsimp only
      go_wp2_with fail
      refine K2.out.mono ?_
      rintro e w1 ⟨rfl, rfl⟩
      dsimp only
      go_wp2
      go_ret
      exact ⟨rfl, rfl⟩
theorem rFind1 (y x : Rel) (w : World) : Calls Tryz.prog 88 (#[y.agg, x.agg] ++ #[]) w fun e w' => e = .returned (.int .i64 (orderR y x)) ∧ Grew w w' := by
  have k := rOrder y x
  unfold Rel.agg at k ⊢
  generalize orderR y x = o at k
  have K := Lib.hid k
  clear k
  go_enter Tryz.func88, Tryz.ntmps88
  go_wp2_with fail
  refine (K.out _).mono ?_
  rintro e w1 ⟨rfl, g⟩
  dsimp only
  go_wp2
  go_ret
  exact ⟨rfl, (((Grew.refl w).alloc _).alloc _).trans g⟩
theorem enters_rFind1 : ∀ args w, (callFunc 88 args).run Tryz.prog w = .ok (.enter 88 args) w := enters_of Tryz.func88 (by kernel_rfl) rfl
theorem ret_ib {i : Int} {a b : Bool} (h : a = b) : Ending.returned (.tuple #[.int .i64 i, .bool a]) = .returned (.tuple #[.int .i64 i, .bool b]) := by rw [h]
/-- Where a sorted list passes a thing. -/
def passes {α : Type} (p : α → Bool) (l : List α) : Nat := (l.takeWhile p).length
theorem passes_eq {α : Type} (p : α → Bool) (l : List α) (i : Nat) (hi : i ≤ l.length) (h1 : ∀ t (h : t < l.length), t < i → p l[t] = true) (h2 : ∀ t (h : t < l.length), i ≤ t → p l[t] = false) : passes p l = i := by
  unfold passes
  induction l generalizing i with
  | nil => simp at hi; simp [hi]
  | cons x r ih =>
    cases i with
    | zero =>
      have := h2 0 (by simp) (by omega)
      simp only [List.getElem_cons_zero] at this
      simp [this]
    | succ i =>
      have := h1 0 (by simp) (by omega)
      simp only [List.getElem_cons_zero] at this
      rw [List.takeWhile_cons, if_pos this, List.length_cons, ih i (by simpa using hi) (fun t h ht => h1 (t + 1) (Nat.succ_lt_succ h) (by omega)) (fun t h ht => h2 (t + 1) (Nat.succ_lt_succ h) (by omega))]
/-- Whether the place is that of the thing itself. -/
def hitB {α : Type} (q : α → Bool) (l : List α) (i : Nat) : Bool := match l[i]? with
  | none => false
  | some y => q y
set_option maxHeartbeats 2000000 in
theorem searchR (l : List Rel) (x : Rel) (cf : Rel → Int) (g : Nat) (eg : ∀ args w, (callFunc g args).run Tryz.prog w = .ok (.enter g args) w) (v : Value) (w : World) (hv : SlR w v l) (hlen : l.length ≤ 1000000)
    (hc : ∀ W y, Calls Tryz.prog g (#[y.agg, x.agg] ++ #[]) W fun e w' => e = .returned (.int .i64 (cf y)) ∧ Grew W w')
    (hm : ∀ i j (hi : i < l.length) (hj : j < l.length), i ≤ j → cf l[j] < 0 → cf l[i] < 0) :
    Calls Tryz.prog 87 #[v, x.agg, .func (.func g) #[] #[]] w fun e w' =>
      e = .returned (.tuple #[.int .i64 (passes (fun y => decide (cf y < 0)) l), .bool (hitB (fun y => decide (cf y = 0)) l (passes (fun y => decide (cf y < 0)) l))]) ∧ Grew w w' := by
  obtain ⟨A, c, rfl, hlc, hcap, hr⟩ := hv.open_
  have HR := Lib.hid hr
  have HM := Lib.hid hm
  have HP := Lib.hid (passes_eq (fun y => decide (cf y < 0)) l)
  have HC := Lib.hid hc
  clear hv hr hm hcap hlc hc
  generalize passes (fun y => decide (cf y < 0)) l = P0 at HP ⊢
  generalize hh0 : hitB (fun y => decide (cf y = 0)) l P0 = hb0
  have HH0 := Lib.hid hh0
  clear hh0
  unfold Rel.agg at HC ⊢
  obtain ⟨xu, xr, xa, xf, xn⟩ := x
  dsimp only at HC ⊢
  go_enter Tryz.func87, Tryz.ntmps87
  go_wp2
  go_loopg [9, 10] l.length (fun gg s9 s10 wr => ∃ i j : Nat, i ≤ j ∧ j ≤ l.length ∧ j - i ≤ gg ∧ s9 = .int .i64 i ∧ s10 = .int .i64 j ∧ Aside (Grew (w.alloc (.cells [.int .i64 xu, .int .i64 xr, .int .i64 xa, .int .i64 xf, .int .i64 xn].toArray 27)) wr) ∧ Aside (∀ t (h : t < l.length), t < i → cf l[t] < 0) ∧ Aside (∀ t (h : t < l.length), j ≤ t → ¬ cf l[t] < 0))
  case atStart => exact ⟨0, l.length, by omega, by omega, by omega, rfl, rfl, (show Aside _ from Grew.refl _), (show Aside _ from fun t h ht => by omega), (show Aside _ from fun t h ht => by omega)⟩
  case round =>
    obtain ⟨i, j, hij, hj, hgk, rfl, rfl, BW, M1, M2⟩ := hrel
    by_cases hlt : i < j
    · have hltz : (i : Int) < (j : Int) := by omega
      have hmid : ((i : Int) + (j : Int)) / 2 = (((i + j) / 2 : Nat) : Int) := by omega
      have hk1 : i ≤ (i + j) / 2 := by omega
      have hk2 : (i + j) / 2 < j := by omega
      have HMID := Lib.hid hmid
      clear hmid
      go_wp2
      rw [HMID.out]
      generalize (i + j) / 2 = k at hk1 hk2
      clear HMID
      have hkl : k < l.length := by omega
      have hkz : (k : Int) < (l.length : Int) := by omega
      have h0z : (0 : Int) ≤ (k : Int) := by omega
      obtain ⟨b, off, rfl, hb, hcell⟩ := HR.out (by omega)
      have GW : Grew w wr := ((Grew.refl w).alloc _).trans BW.out
      obtain ⟨c0, c1, c2, c3, c4⟩ := hcell wr GW k hkl
      have f0 := Gr.cell c0
      have f1 := Gr.cell c1
      have f2 := Gr.cell c2
      have f3 := Gr.cell c3
      have f4 := Gr.cell c4
      have k0 := Gr.cell (new_cell BW.out 0 _ rfl)
      have k1 := Gr.cell (new_cell BW.out 1 _ rfl)
      have k2 := Gr.cell (new_cell BW.out 2 _ rfl)
      have k3 := Gr.cell (new_cell BW.out 3 _ rfl)
      have k4 := Gr.cell (new_cell BW.out 4 _ rfl)
      have kC := fun W => HC.out W l[k]
      have HN1 : RowKit.Hid (cf l[k] < 0 → ∀ t (h : t < l.length), t < k + 1 → cf l[t] < 0) := fun h t ht htk => HM.out t k ht hkl (by omega) h
      have HN2 : RowKit.Hid (¬ cf l[k] < 0 → ∀ t (h : t < l.length), k ≤ t → ¬ cf l[t] < 0) := fun h t ht htk h3 => h (HM.out k t hkl ht htk h3)
      clear hcell c0 c1 c2 c3 c4 GW
      generalize cf l[k] = r at kC HN1 HN2
      generalize l[k] = y at f0 f1 f2 f3 f4 kC
      obtain ⟨yu, yr, ya, yf, yn⟩ := y
      dsimp only at f0 f1 f2 f3 f4 kC
      have KC := Lib.hid kC
      clear kC
      by_cases hneg : r < 0
      · have Hn := Lib.hid (HN1.out hneg)
        refine region_gr wr (by kernel_rfl) (by kernel_rfl) (Grew.refl _) ?_
        repeat (first | go_big_quiet_step ((exact Gr.calls _ (KC.out _))) | quiet_step ((exact Gr.calls _ (KC.out _))))
        refine wpQuiet_nil ?_
        intro _ hw'
        obtain ⟨wi, rfl⟩ := hw'
        have HWI := Lib.hid wi.g
        clear f0 f1 f2 f3 f4 k0 k1 k2 k3 k4
        go_wp2
        go_roundg (j - (k + 1))
        case measure => omega
        case rel => exact ⟨k + 1, j, by omega, by omega, by omega, by go_num, rfl, (show Aside _ from BW.out.trans HWI.out), (show Aside _ from Hn.out), M2⟩
      · have hneg' : decide (r < 0) = false := by simpa using hneg
        have Hn := Lib.hid (HN2.out hneg)
        clear hneg
        refine region_gr wr (by kernel_rfl) (by kernel_rfl) (Grew.refl _) ?_
        repeat (first | go_big_quiet_step ((exact Gr.calls _ (KC.out _))) | quiet_step ((exact Gr.calls _ (KC.out _))))
        refine wpQuiet_nil ?_
        intro _ hw'
        obtain ⟨wi, rfl⟩ := hw'
        have HWI := Lib.hid wi.g
        clear f0 f1 f2 f3 f4 k0 k1 k2 k3 k4
        go_wp2
        go_roundg (k - i)
        case measure => omega
        case rel => exact ⟨i, k, by omega, by omega, by omega, rfl, rfl, (show Aside _ from BW.out.trans HWI.out), M1, (show Aside _ from Hn.out)⟩
    · have hltz : ¬ (i : Int) < (j : Int) := by omega
      obtain rfl : i = j := by omega
      have hP := HP.out i hj (fun t h ht => by simpa using M1.out t h ht) (fun t h ht => by simpa using M2.out t h ht)
      subst hP
      have HGW := Lib.hid (((Grew.refl w).alloc _).trans BW.out)
      by_cases hil : P0 < l.length
      · have hilz : (P0 : Int) < (l.length : Int) := by omega
        have h0z : (0 : Int) ≤ (P0 : Int) := by omega
        obtain ⟨b, off, rfl, hb, hcell⟩ := HR.out (by omega)
        obtain ⟨c0, c1, c2, c3, c4⟩ := hcell wr HGW.out P0 hil
        have f0 := Gr.cell c0
        have f1 := Gr.cell c1
        have f2 := Gr.cell c2
        have f3 := Gr.cell c3
        have f4 := Gr.cell c4
        have k0 := Gr.cell (new_cell BW.out 0 _ rfl)
        have k1 := Gr.cell (new_cell BW.out 1 _ rfl)
        have k2 := Gr.cell (new_cell BW.out 2 _ rfl)
        have k3 := Gr.cell (new_cell BW.out 3 _ rfl)
        have k4 := Gr.cell (new_cell BW.out 4 _ rfl)
        have kC := fun W => HC.out W l[P0]
        have hh : (cf l[P0] == 0) = hb0 := by
          rw [← HH0.out]
          simp only [hitB, List.getElem?_eq_getElem hil]
          rfl
        clear hcell c0 c1 c2 c3 c4
        generalize cf l[P0] = r at kC hh
        have HHE := Lib.hid hh
        clear hh
        generalize l[P0] = y at f0 f1 f2 f3 f4 kC
        obtain ⟨yu, yr, ya, yf, yn⟩ := y
        dsimp only at f0 f1 f2 f3 f4 kC
        have KC := Lib.hid kC
        clear kC
        go_wp2
        refine region_gr wr (by kernel_rfl) (by kernel_rfl) (Grew.refl _) ?_
        repeat (first | go_big_quiet_step ((exact Gr.calls _ (KC.out _))) | quiet_step ((exact Gr.calls _ (KC.out _))))
        refine wpQuiet_nil ?_
        intro _ hw'
        obtain ⟨wi, rfl⟩ := hw'
        have HWI := Lib.hid wi.g
        clear f0 f1 f2 f3 f4 k0 k1 k2 k3 k4
        go_wp2
        go_ret2
        exact ⟨ret_ib HHE.out, HGW.out.trans HWI.out⟩
      · have hilz : decide ((P0 : Int) < (l.length : Int)) = false := by simp; omega
        have hh : false = hb0 := by rw [← HH0.out]; simp [hitB, hil]
        have HHE := Lib.hid hh
        clear hh
        go_wp2
        go_quiet (fail)
        go_wp2
        go_ret2
        exact ⟨ret_ib HHE.out, HGW.out.drewN _⟩
end Go.Proofs.YtfghbendiofbeaaGreatDoor

/- relation.holders, walked. The conditions: the authorities are numbers of an int; the list is short. -/
namespace Go.Proofs.YtfghbendiofbeaaGreatDoor
open Go.RowKit Go.Maps

theorem keyedI : Keyed Tryz.prog 3 := int_keyed Tryz.underlying3
def RetSl (r : List Int) (w : World) (e : Ending) (w' : World) : Prop := ∃ v, e = .returned v ∧ SlI w' v r ∧ Grew w w' ∧ ∀ k, v.ownBlock = some k → w.heap.size ≤ k
theorem grew_turned {w0 w w' : World} {b : Nat} (h : Grew w0 w) (g : w.grownBy w' (some b)) (hb : w0.heap.size ≤ b) : Grew w0 w' := Below.grown h g h.size (fun k hk => by cases hk; exact hb)
theorem map_later {w w' : World} {k e : TypeId} {b n : Nat} {D : DataW Unit} (h : w.ownsMap Tryz.prog k (plainElem Tryz.prog e) b n D) (g : Grew w w') : w'.ownsMap Tryz.prog k (plainElem Tryz.prog e) b n D := by
  obtain ⟨es, clock, hb, r⟩ := h
  exact ⟨es, clock, by rw [g.block b (Array.getElem?_eq_some_iff.1 hb).1]; exact hb, r⟩
set_option maxHeartbeats 4000000 in
set_option maxRecDepth 100000 in
theorem rHoldersIn (l : List Rel) (u r d : Int) (lv : Value) (w : World) (hl : SlR w lv l) (hll : l.length ≤ 1000000) (hw : ∀ x ∈ l, (Lit.int .i64 x.auth).wf = true) :
    Calls Tryz.prog 61 #[lv, .int .i64 u, .int .i64 r, .int .i64 d] w (RetSl (holdersF l u r d) w) := by
  have hmm := @run_makeMap Tryz.prog
  obtain ⟨A, c, rfl, hlc, hc, hr⟩ := hl.open_
  unfold maxLen at hc
  have HR := Lib.hid hr
  have HWF := Lib.hid (fun i (hi : i < l.length) => hw l[i] (List.getElem_mem hi))
  have HT := Lib.hid (authsOn_take l u r d)
  have HL := Lib.hid (fun k => authsOn_len (l.take k) u r d)
  have HFin := Lib.hid (sortI_auths l u r d)
  obtain ⟨i0, hi, hz0, hz1, hz2⟩ := info_parts cinfoI
  clear hl hr hw
  generalize hH : holdersF l u r d = HF at HFin ⊢
  clear hH
  go_enter Tryz.func61, Tryz.ntmps61
  go_wp2
  go_loopg [17] l.length (fun gg s17 wr => ∃ kk : Nat, kk ≤ l.length ∧ l.length - kk ≤ gg ∧ s17 = .int .i64 kk ∧ Aside (wr.ownsMap Tryz.prog 3 (plainElem Tryz.prog 4) w.heap.size kk (setInts (authsOn (l.take kk) u r d))) ∧ Aside (Grew w wr))
  case atStart => exact ⟨0, by omega, by omega, rfl, (show Aside _ from World.ownsMap_made _ _ _ _), (show Aside _ from (Grew.refl w).alloc _)⟩
  case round =>
    obtain ⟨kk, hkk, hgk, rfl, OW, BW⟩ := hrel
    by_cases hlt : kk < l.length
    case neg =>
      have hltz : ¬ (kk : Int) < (l.length : Int) := by omega
      obtain rfl : kk = l.length := by omega
      rw [List.take_length] at OW
      have hsz := OW.out.size_le
      generalize authsOn l u r d = K0 at OW HFin hsz
      go_wp2_with (at_range; refine wpList_range_own _ rfl _ 115 rfl 3 4 keyedI Tryz.underlying115 _ w.heap.size l.length _ rfl OW.out ?_; intro w0 hrg0 hg0 hs0)
      have HRG := Lib.hid hrg0
      have HG0 := Lib.hid (show Grew w w0 from Below.grown BW.out hg0 BW.out.size (fun k hk => by cases hk))
      have HS0 := Lib.hid (show w.heap.size ≤ wr.heap.size from BW.out.size)
      clear hrg0 hg0 hs0
      generalize wr.heap.size = r0 at HRG HS0
      go_loopg [12] (Maps.size (setInts K0)) (fun gg s12 wx => ∃ left cnt ks, cnt ≤ gg ∧ Aside (wx.ranges Tryz.prog 3 (plainElem Tryz.prog 4) w.heap.size r0 l.length (setInts K0) left cnt) ∧ Aside (wx.ownsRow w.heap.size 3 1 s12 ks.length (ks.flatMap oneI)) ∧ Aside (CollI (setInts K0) left ks) ∧ ks.length + cnt ≤ Maps.size (setInts K0) ∧ Aside (Grew w wx))
      case atStart => exact ⟨_, _, [], Nat.le_refl _, HRG.out, (show Aside _ from World.ownsRow_nil _ _ _ _), (show Aside _ from CollI.start _), by simp, HG0.out⟩
      case round =>
        obtain ⟨left, cnt, ks, hcg, RG, OR, CO, hcs, GX⟩ := hrel
        go_wp2_with (at_next; refine wpList_next_ranges _ rfl _ rfl 3 keyedI (plainElem Tryz.prog 4) (Value.int .i64) (fun v : Value => v) (fun key kl hk => by obtain ⟨x, hx, _⟩ := Maps.keyOf_int_inv Tryz.underlying3 hk; exact ⟨x, hx⟩) (fun v y hv => ⟨v, rfl⟩) w.heap.size r0 l.length _ _ _ rfl RG.out ?_ ?_)
        · intro hc0 hl0
          have hd := CO.out.done hl0
          have HD := Lib.hid (HFin.out ks hd.1 hd.2)
          have KS := Lib.hid (sort_own ks w _ _ wr OR.out GX.out (by omega))
          clear hd hl0
          go_wp2_with fail
          refine KS.out.mono ?_
          rintro e w4 ⟨rfl, hs4, g4⟩
          rw [HD.out] at hs4
          have HS4 := Lib.hid hs4
          clear hs4
          dsimp only
          go_wp2
          go_ret
          exact ⟨_, rfl, HS4.out, g4, fun k hk => (OR.out.lt k hk).1⟩
        · intro x c kl yd yp w2 cnt2 hkey hlk hv hat hrg2 hlt2 hg2 hs2 hen
          obtain ⟨x', ex, rfl, _⟩ := Maps.keyOf_int_inv Tryz.underlying3 hkey
          obtain rfl : x = x' := by injection ex
          have OR2 := Lib.hid (OR.out.kept hg2 (Or.inr (row_ne_iter OR.out RG.out).symm))
          have RG2 := Lib.hid hrg2
          have CO2 := Lib.hid (CO.out.step hlk hat)
          have GX2 := Lib.hid (grew_turned GX.out hg2 HS0.out)
          have hm : ks.length + 1 ≤ 1000000 := by omega
          clear hs2 hg2 hrg2 hat hlk hv hkey ex
          go_wp2_with (at_builtin; refine wpList_append_own _ rfl _ _ 43 rfl w.heap.size 3 i0 (.int .i64 0) 1 8 Tryz.underlying43 hi hz0 hz1 hz2 rfl (by decide) _ _ _ rfl (OR2.out.alloc _) ⟨w2.heap.size, 0, none⟩ 1 1 [.int .i64 x] rfl rfl (cell_one_new _ _ _) (by simp [Value.oneCell']) (by unfold maxLen; omega) (by omega) (by have := GX2.out.size; simp; omega) ?_; intro v' w3 hown' hg3 hnil3)
          have RG3 := Lib.hid ((RG2.out.alloc _).kept hg3 (row_ne_map OR2.out RG2.out.owns) (row_ne_iter OR2.out RG2.out))
          have GX3 := Lib.hid (show Grew w w3 from Below.grown (GX2.out.alloc _) hg3 (by have := GX2.out.size; simp; omega) (fun k hk => (OR2.out.lt k hk).1))
          have OR3 := Lib.hid hown'
          clear hown' hg3 hnil3
          go_roundg cnt2
          case measure => omega
          case rel => exact ⟨_, cnt2, ks ++ [x], Nat.le_refl _, RG3.out, (show Aside _ from by rw [List.flatMap_append, List.length_append]; exact OR3.out), CO2.out, by simp; omega, GX3.out⟩
    have hltz : (kk : Int) < (l.length : Int) := by omega
    obtain ⟨b, off, rfl, hb, hcell⟩ := HR.out (by omega)
    obtain ⟨c0, c1, c2, c3, c4⟩ := hcell wr BW.out kk hlt
    have ht := HT.out kk hlt
    have hlen := HL.out kk
    have hwf := HWF.out kk hlt
    rw [List.length_take] at hlen
    generalize hU2 : authsOn (l.take (kk + 1)) u r d = U2 at ht
    have HU2 := Lib.hid hU2
    generalize authsOn (l.take kk) u r d = U at ht hlen OW
    unfold relOn at ht
    generalize l[kk] = y at ht c0 c1 c2 c3 c4 hwf
    obtain ⟨yu, yr, ya, yf, yn⟩ := y
    dsimp only at ht c0 c1 c2 c3 c4 hwf
    have kI := rIn yf yn d
    generalize inF yf yn d = q at kI ht
    have KI := Lib.hid kI
    have HKey := Lib.hid (keyOf_int_mk (P := Tryz.prog) Tryz.underlying3 hwf)
    have HT2 := Lib.hid ht
    clear kI hU2 ht hwf hcell
    have HRel := Lib.hid (fun (V : Value) (W : World) (kn : Nat) (hk : kn = kk + 1) (O : W.ownsMap Tryz.prog 3 (plainElem Tryz.prog 4) w.heap.size kn (setInts U2)) (G : Grew w W) (hV : V = .int .i64 (kk + 1 : Nat)) => (⟨kk + 1, by omega, by omega, hV, (show Aside _ from by subst hk; rw [HU2.out]; exact O), (show Aside _ from G)⟩ : ∃ k2 : Nat, k2 ≤ l.length ∧ l.length - k2 ≤ l.length - (kk + 1) ∧ V = .int .i64 k2 ∧ Aside (W.ownsMap Tryz.prog 3 (plainElem Tryz.prog 4) w.heap.size k2 (setInts (authsOn (l.take k2) u r d))) ∧ Aside (Grew w W)))
    cases hq1 : (yu == u)
    · have hE : U2 = U := by rw [HT2.out, hq1]; simp
      subst hE
      go_wp2
      go_roundg (l.length - (kk + 1))
      case measure => omega
      case rel => exact HRel.out _ _ _ rfl ((OW.out.alloc _).mono (by omega)) (BW.out.alloc _) (by go_num)
    cases hq2 : (yr == r)
    · have hE : U2 = U := by rw [HT2.out, hq1, hq2]; simp
      subst hE
      go_wp2
      go_roundg (l.length - (kk + 1))
      case measure => omega
      case rel => exact HRel.out _ _ _ rfl ((OW.out.alloc _).mono (by omega)) (BW.out.alloc _) (by go_num)
    cases q
    · have hE : U2 = U := by rw [HT2.out, hq1, hq2]; simp
      subst hE
      go_wp2_with fail
      refine (KI.out _).mono ?_
      rintro e w1 ⟨rfl, g1⟩
      have HG1 := Lib.hid g1
      clear g1
      dsimp only
      go_wp2
      go_roundg (l.length - (kk + 1))
      case measure => omega
      case rel => exact HRel.out _ _ _ rfl ((map_later (OW.out.alloc _) HG1.out).mono (by omega)) ((BW.out.alloc _).trans HG1.out) (by go_num)
    · have HE : RowKit.Hid (U2 = U ++ [ya]) := by
        show U2 = U ++ [ya]
        rw [HT2.out, hq1, hq2]; simp
      go_wp2_with fail
      refine (KI.out _).mono ?_
      rintro e w1 ⟨rfl, g1⟩
      have e2 := new_cell g1 2 _ rfl
      have HG1 := Lib.hid g1
      clear g1
      dsimp only
      go_wp2_with (at_mapUpdate; refine wpList_mapUpdate_own _ rfl _ _ _ 115 rfl 3 4 keyedI Tryz.underlying115 (plainElem (H := Unit) Tryz.prog 4) w.heap.size kk _ rfl (map_later (OW.out.alloc _) HG1.out) (by unfold maxLen; omega) _ _ _ rfl rfl HKey.out _ [] (plainElem_bool Tryz.underlying4 true) ?_; intro w2 hown2 hgrow2)
      have OW2 := Lib.hid hown2
      have HG2 := Lib.hid (grew_turned ((BW.out.alloc _).trans HG1.out) hgrow2 (Nat.le_refl _))
      clear hown2 hgrow2
      go_wp2
      go_roundg (l.length - (kk + 1))
      case measure => omega
      case rel => exact HRel.out _ _ _ rfl (by rw [HE.out, setInts_snoc]; exact OW2.out) HG2.out (by go_num)
end Go.Proofs.YtfghbendiofbeaaGreatDoor

/- The order of relations, plainly: strict, and monotone for the search in a right list. No condition. -/
namespace Go.Proofs.YtfghbendiofbeaaGreatDoor
open Go.RowKit

def ltR (a b : Rel) : Prop := a.unit < b.unit ∨ (a.unit = b.unit ∧ (a.role < b.role ∨ (a.role = b.role ∧ (a.auth < b.auth ∨ (a.auth = b.auth ∧ a.fr < b.fr)))))
theorem ltR_trans {a b c : Rel} (h1 : ltR a b) (h2 : ltR b c) : ltR a c := by unfold ltR at *; omega
theorem orderR_lt (a b : Rel) : orderR a b < 0 ↔ ltR a b := by
  unfold orderR ltR
  simp only [orF, Lib.compareInt]
  repeat' split
  all_goals omega
theorem orderR_eq (a b : Rel) : orderR a b = 0 ↔ a.unit = b.unit ∧ a.role = b.role ∧ a.auth = b.auth ∧ a.fr = b.fr := by
  unfold orderR
  simp only [orF, Lib.compareInt]
  repeat' split
  all_goals omega
theorem order_mono {l : List Rel} (h : l.Pairwise ltR) (x : Rel) : ∀ i j (hi : i < l.length) (hj : j < l.length), i ≤ j → orderR l[j] x < 0 → orderR l[i] x < 0 := by
  intro i j hi hj hij hc
  rw [orderR_lt] at hc ⊢
  by_cases e : i = j
  · subst e; exact hc
  · exact ltR_trans (List.pairwise_iff_getElem.1 h i j hi hj (by omega)) hc
theorem rFind (l : List Rel) (x : Rel) (v : Value) (w : World) (hv : SlR w v l) (hlen : l.length ≤ 1000000) (hs : l.Pairwise ltR) :
    Calls Tryz.prog 56 #[v, x.agg] w fun e w' => e = .returned (.tuple #[.int .i64 (passes (fun y => decide (orderR y x < 0)) l), .bool (hitB (fun y => decide (orderR y x = 0)) l (passes (fun y => decide (orderR y x < 0)) l))]) ∧ Grew w w' := by
  have K := Lib.hid (fun W (hW : Grew w W) => searchR l x (fun y => orderR y x) _ enters_rFind1 v W (hv.mono hW) hlen (fun W' y => rFind1 y x W') (order_mono hs x))
  generalize hitB (fun y => decide (orderR y x = 0)) l (passes (fun y => decide (orderR y x < 0)) l) = hb at K ⊢
  generalize passes (fun y => decide (orderR y x < 0)) l = P0 at K ⊢
  unfold Rel.agg at K ⊢
  clear hv hs hlen
  go_enter Tryz.func56, Tryz.ntmps56
  go_wp2_with fail
  refine (K.out _ ((Grew.refl w).alloc _)).mono ?_
  rintro e w1 ⟨rfl, g1⟩
  dsimp only
  go_wp2
  go_ret2
  exact ⟨rfl, ((Grew.refl w).alloc _).trans g1⟩
end Go.Proofs.YtfghbendiofbeaaGreatDoor

/- What relation.Check says of a right list, plainly. No condition. -/
namespace Go.Proofs.YtfghbendiofbeaaGreatDoor
open Go.RowKit

theorem adj_pairwise {α : Type} {r : α → α → Prop} (tr : ∀ a b c, r a b → r b c → r a c) : ∀ (l : List α), (∀ (i : Nat) (h : i + 1 < l.length), r (l[i]'(by omega)) (l[i + 1]'h)) → l.Pairwise r
  | [], _ => List.Pairwise.nil
  | [_], _ => by simp
  | a :: b :: m, h => by
    have ih := adj_pairwise (r := r) tr (b :: m) (fun i hi => h (i + 1) (by simpa using hi))
    have hab : r a b := h 0 (by simp)
    refine List.Pairwise.cons ?_ ih
    intro x hx
    rcases List.mem_cons.1 hx with rfl | hx
    · exact hab
    · exact tr _ _ _ hab (List.rel_of_pairwise_cons ih hx)
theorem findBad_snd (f : Nat → Int) : ∀ n i, (findBad f n i).2 = 0 ↔ ∀ j, i ≤ j → j < i + n → f j = 0
  | 0, i => ⟨fun _ j h1 h2 => by omega, fun _ => rfl⟩
  | n + 1, i => by
    rw [findBad]
    split
    · rename_i h
      rw [findBad_snd f n (i + 1)]
      constructor
      · intro h2 j h3 h4
        by_cases e : j = i
        · rw [e]; exact h
        · exact h2 j (by omega) (by omega)
      · intro h2 j h3 h4
        exact h2 j (by omega) (by omega)
    · rename_i h
      constructor
      · intro h2; exact absurd h2 h
      · intro h2; exact absurd (h2 i (by omega) (by omega)) h
/-- A right list of relations. -/
def RightR (a : List Auth) (l : List Rel) : Prop := AuthRight a ∧ l.length ≤ 256 ∧ (∀ x ∈ l, relAlone a x = 0) ∧ l.Pairwise ltR ∧ ∀ (i : Nat) (h : i + 1 < l.length), sameR (l[i]'(by omega)) (l[i + 1]'h) = true → (l[i]'(by omega)).un ≤ (l[i + 1]'h).fr
theorem relFault_ok (a : List Auth) (p : Option Rel) (x : Rel) : relFault a p x = 0 ↔ relAlone a x = 0 ∧ ∀ u, p = some u → ltR u x ∧ (sameR u x = true → u.un ≤ x.fr) := by
  unfold relFault
  by_cases h : relAlone a x = 0
  · cases p with
    | none => simp [h]
    | some u =>
      simp only [h, ne_eq, not_true_eq_false, if_false, true_and, Option.some.injEq, forall_eq']
      have hl := orderR_lt u x
      by_cases h0 : 0 ≤ orderR u x
      · have hn : ¬ ltR u x := fun k => by have := hl.2 k; omega
        simp [h0, hn]
      · have hy : ltR u x := hl.1 (by omega)
        by_cases hs : sameR u x = true
        · by_cases hf : x.fr < u.un
          · simp [h0, hy, hs, hf]
          · simp [h0, hy, hs, hf]; omega
        · simp [h0, hy, hs]
  · simp [h]
theorem relCheck_right (a : List Auth) (l : List Rel) : (relCheck a l).2 = 0 ↔ RightR a l := by
  unfold relCheck RightR
  by_cases h0 : AuthRight a
  case neg => simp [h0]
  by_cases h1 : 256 < l.length
  · simp [h0, h1]; intro h; omega
  have h1' : l.length ≤ 256 := by omega
  simp only [h0, h1, h1', not_true_eq_false, if_false, true_and]
  rw [findBad_snd]
  constructor
  · intro h
    have hg : ∀ i (hi : i < l.length), relAlone a l[i] = 0 ∧ ∀ u, prevR l i = some u → ltR u l[i] ∧ (sameR u l[i] = true → u.un ≤ l[i].fr) := fun i hi => by
      have := h i (by omega) (by omega)
      rw [relFaultAt_in a l i hi, relFault_ok] at this
      exact this
    have hpv : ∀ i (hi : i + 1 < l.length), prevR l (i + 1) = some (l[i]'(by omega)) := fun i hi => by
      rw [prevR, if_neg (by omega), Nat.add_sub_cancel, List.getElem?_eq_getElem (by omega)]
    refine ⟨fun x hx => ?_, adj_pairwise (r := ltR) (fun _ _ _ => ltR_trans) l (fun i hi => ((hg (i + 1) hi).2 _ (hpv i hi)).1), fun i hi => ((hg (i + 1) hi).2 _ (hpv i hi)).2⟩
    obtain ⟨i, hi, rfl⟩ := List.mem_iff_getElem.1 hx
    exact (hg i hi).1
  · rintro ⟨hg, hp, ho⟩ j - hj
    have hj : j < l.length := by omega
    rw [relFaultAt_in a l j hj, relFault_ok]
    refine ⟨hg _ (List.getElem_mem hj), fun u hu => ?_⟩
    unfold prevR at hu
    split at hu
    · cases hu
    · rename_i hne
      obtain ⟨m, rfl⟩ : ∃ m, j = m + 1 := ⟨j - 1, by omega⟩
      rw [Nat.add_sub_cancel, List.getElem?_eq_getElem (by omega)] at hu
      simp only [Option.some.injEq] at hu
      subst hu
      exact ⟨List.pairwise_iff_getElem.1 hp m (m + 1) (by omega) hj (by omega), ho m hj⟩
end Go.Proofs.YtfghbendiofbeaaGreatDoor
