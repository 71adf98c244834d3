/- Lemmas on what the functions of the program and of the library compute: A3. The conditions stand at each. -/
import Derived.Test.YtfghbendiofbeaaGreatDoorQ6
/- authority: alone, index, successors, walked. The condition: the library's own variables hold what they must. -/
namespace Go.Proofs.YtfghbendiofbeaaGreatDoor
open Go.RowKit

set_option maxHeartbeats 4000000 in
theorem auAlone_any (l : List Auth) (i : Nat) (hi : i < l.length) (v : Value) (w : World) (hE : Env w) (hv : SlAu w v l) :
    Calls Tryz.prog 108 #[v, .int .i64 i] w (RetIff (AuAlone l i hi) w) := by
  obtain ⟨A, c, rfl, hlc, hc, hr⟩ := hv.open_
  unfold maxLen at hc
  obtain ⟨b, off, rfl, hbk, hcell⟩ := hr (by omega)
  obtain ⟨nv, xv, hn, hx, hcl⟩ := hcell i hi
  obtain ⟨c0, c1, c2, c3, c4, c5⟩ := hcl w (Grew.refl w)
  have HD : RowKit.Hid (AuAlone l i hi ↔ within l[i].id 1 1073741824 = true ∧ within l[i].kind 1 3 = true ∧ spansF l[i].fr l[i].un = true ∧ (0 < i → (l[i - 1]'(by omega)).id < l[i].id) ∧ NamesOk l[i] ∧ NextOk l[i].next) := Iff.rfl
  have HPREV : RowKit.Hid (0 < i → ∀ W, Grew w W → W.cell? ⟨b, off + (i - 1) * 6, none⟩ = some (.int .i64 (l[i - 1]'(by omega)).id)) := fun h W hW => by
    obtain ⟨_, _, _, _, hq⟩ := hcell (i - 1) (by omega)
    exact (hq W hW).1
  have kN := fun W (hW : Grew w W) => names_any l[i] nv xv W (hE.mono hW) (hn.mono hW)
  have hiz : (i : Int) < (l.length : Int) := by omega
  have h0z : (0 : Int) ≤ (i : Int) := by omega
  generalize AuAlone l i hi = PA at HD ⊢
  generalize hp : (0 < i → (l[i - 1]'(by omega)).id < l[i].id) = PP at HD
  have hy : ∃ y, RowKit.Hid (l[i] = y) := ⟨_, rfl⟩
  obtain ⟨y, hy⟩ := hy
  rw [hy.out] at c0 c1 c2 c3 HD kN hx hp hn
  obtain ⟨yi, yk, yf, yu, yn, nx⟩ := y
  dsimp only at c0 c1 c2 c3 HD kN hx hp hn
  have HPP := Lib.hid hp
  obtain ⟨Ax, cx, rfl, hlx, hcx, hrx⟩ := hx.open_
  unfold maxLen at hcx
  have HRX := Lib.hid hrx
  obtain ⟨An, cn, rfl, -, -, -⟩ := hn.open_
  have HX : RowKit.Hid (NextOk nx ↔ nx.length ≤ 16 ∧ ∀ k (h : k < nx.length), 1 ≤ k → (nx[k - 1]'(by omega)) < nx[k]) := Iff.rfl
  generalize NamesOk ⟨yi, yk, yf, yu, yn, nx⟩ = PN at HD kN
  generalize NextOk nx = PX at HD HX
  have kw1 := aWithin yi 1 1073741824
  have kw2 := aWithin yk 1 3
  have ks := aSpans yf yu
  generalize within yi 1 1073741824 = q1 at kw1 HD
  generalize within yk 1 3 = q2 at kw2 HD
  generalize spansF yf yu = q3 at ks HD
  have KN := Lib.hid kN
  have KW1 := Lib.hid kw1
  have KW2 := Lib.hid kw2
  have KS := Lib.hid ks
  clear hp kN kw1 kw2 ks hcell hcl hrx hn hx hv hE hr
  go_enter Tryz.func108, Tryz.ntmps108
  go_wp2_with fail
  refine (KW1.out _).mono ?_
  rintro e w1 ⟨rfl, rfl⟩
  cases q1 with
  | false =>
    have Hn : RowKit.Hid (¬ PA) := fun h => by have := (HD.out.1 h).1; cases this
    dsimp only
    go_wp2
    go_ret
    exact RetIff.no 2 (by decide) Hn.out ((Grew.refl w).alloc _)
  | true =>
  dsimp only
  go_wp2_with fail
  refine (KW2.out _).mono ?_
  rintro e w1 ⟨rfl, rfl⟩
  cases q2 with
  | false =>
    have Hn : RowKit.Hid (¬ PA) := fun h => by have := (HD.out.1 h).2.1; cases this
    dsimp only
    go_wp2
    go_ret
    exact RetIff.no 2 (by decide) Hn.out ((Grew.refl w).alloc _)
  | true =>
  dsimp only
  go_wp2_with fail
  refine (KS.out _).mono ?_
  rintro e w1 ⟨rfl, g1⟩
  have HG1 := Lib.hid g1
  have HGW := Lib.hid (((Grew.refl w).alloc _).trans g1)
  have e0 := new_cell g1 0 _ rfl
  have e1 := new_cell g1 1 _ rfl
  have e2 := new_cell g1 2 _ rfl
  have e3 := new_cell g1 3 _ rfl
  have e4 := new_cell g1 4 _ rfl
  have e5 := new_cell g1 5 _ rfl
  clear g1 c0 c1 c2 c3 c4 c5
  cases q3 with
  | false =>
    have Hn : RowKit.Hid (¬ PA) := fun h => by have := (HD.out.1 h).2.2.1; cases this
    dsimp only
    go_wp2
    go_ret
    exact RetIff.no 2 (by decide) Hn.out HGW.out
  | true =>
  dsimp only
  have h5i := hlx
  rcases Nat.eq_zero_or_pos i with hi0 | hipos
  · have HPREVOK : RowKit.Hid PP := HPP.out ▸ (fun h => absurd h (by omega))
    have hiz0 : decide ((0 : Int) < (i : Int)) = false := by simp; omega
    subst hi0
    go_wp2
    go_quiet (fail)
    go_wp2_with fail
    refine (KN.out _ (HGW.out.drewN _)).mono ?_
    rintro e w2 ⟨n, rfl, hnn, g2⟩
    have HNN := Lib.hid hnn
    have HG2 := Lib.hid (Grew.trans (Grew.drewN HG1.out _) g2)
    have HW2 := Lib.hid (Grew.trans (Grew.drewN HGW.out _) g2)
    have f5 := new_cell HG2.out 5 _ rfl
    clear hnn g2 e0 e1 e2 e3 e4 e5 HGW HG1
    dsimp only
    by_cases hz : n = 0
    case neg =>
      have hz' : (n != 0) = true := by simpa using hz
      have Hz := Lib.hid hz
      have Hn : RowKit.Hid (¬ PA) := fun h => Hz.out (HNN.out.2 (HD.out.1 h).2.2.2.2.1)
      clear hz
      go_wp2
      go_ret
      exact RetIff.no n Hz.out Hn.out HW2.out
    subst hz
    have HPN := Lib.hid (HNN.out.1 rfl)
    clear HNN
    by_cases h16 : 16 < nx.length
    · have h16' : (16 : Int) < (nx.length : Int) := by omega
      have Hn : RowKit.Hid (¬ PA) := fun h => by have := (HX.out.1 (HD.out.1 h).2.2.2.2.2).1; omega
      go_wp2
      go_ret
      exact RetIff.no 8 (by decide) Hn.out HW2.out
    have h16' : ¬ (16 : Int) < (nx.length : Int) := by omega
    go_wp2
    go_loopg [7] nx.length (fun gg s7 wr => ∃ k : Nat, 1 ≤ k ∧ nx.length - k ≤ gg ∧ s7 = .int .i64 k ∧ k ≤ 17 ∧ Aside (Grew w2 wr) ∧ Aside (∀ j (h : j < nx.length), 1 ≤ j → j < k → (nx[j - 1]'(by omega)) < nx[j]))
    case atStart => exact ⟨1, by omega, by omega, rfl, by omega, (show Aside _ from Grew.refl _), (show Aside _ from fun j h h1 h2 => by omega)⟩
    case round =>
      obtain ⟨k, hk1, hgk, rfl, hk17, BW, M⟩ := hrel
      have g5 := (BW.out.cell (p := ⟨w.heap.size, 5, none⟩) (World.block_lt_of_cell? w2 _ f5)).trans f5
      by_cases hlt : k < nx.length
      case neg =>
        have hltz : ¬ (k : Int) < (nx.length : Int) := by omega
        have Hx : RowKit.Hid PX := HX.out.2 ⟨by omega, fun j h h1 => M.out j h h1 (by omega)⟩
        have Hy : RowKit.Hid PA := HD.out.2 ⟨by first | rfl | trivial, by first | rfl | trivial, by first | rfl | trivial, HPREVOK.out, HPN.out, Hx.out⟩
        go_wp2
        go_ret
        exact RetIff.yes Hy.out (HW2.out.trans BW.out)
      have hltz : (k : Int) < (nx.length : Int) := by omega
      have h0k : (0 : Int) ≤ (k : Int) := by omega
      have hki : (0 : Int) ≤ (k : Int) - 1 := by omega
      have hki2 : (k : Int) - 1 < (nx.length : Int) := by omega
      have hki3 : (1 : Int) ≤ (k : Int) := by omega
      have hkt : ((k : Int) - 1).toNat = k - 1 := by omega
      obtain ⟨bx, ox, rfl, hbx, hcx2⟩ := HRX.out (by omega)
      have d1 := hcx2 wr (HW2.out.trans BW.out) k hlt
      have d2 := hcx2 wr (HW2.out.trans BW.out) (k - 1) (by omega)
      have HS : RowKit.Hid ((nx[k - 1]'(by omega)) < nx[k] → ∀ j (h : j < nx.length), 1 ≤ j → j < k + 1 → (nx[j - 1]'(by omega)) < nx[j]) := fun h j hj h1 h2 => by
        by_cases e : j = k
        · subst e; exact h
        · exact M.out j hj h1 (by omega)
      have HB : RowKit.Hid (¬ (nx[k - 1]'(by omega)) < nx[k] → ¬ PA) := fun h h2 => h ((HX.out.1 (HD.out.1 h2).2.2.2.2.2).2 k hlt hk1)
      clear hcx2
      generalize nx[k - 1]'(by omega) = z1 at d2 HS HB
      generalize nx[k] = z2 at d1 HS HB
      have hwr : IntKind.i64.wrap ((k : Int) - 1) = (k : Int) - 1 := IntWalk.i64_in _ (by omega)
      by_cases r : z2 ≤ z1
      · have Hn := Lib.hid (HB.out (by omega))
        go_wp2
        go_quiet (fail)
        clear hwr
        go_wp2
        go_ret
        exact RetIff.no 5 (by decide) Hn.out ((HW2.out.trans BW.out).drewN _)
      · have r' : decide (z2 ≤ z1) = false := by simpa using r
        have Hs := Lib.hid (HS.out (by omega))
        clear HS HB r
        go_wp2
        go_quiet (fail)
        clear hwr
        go_wp2
        go_roundg (nx.length - (k + 1))
        case measure => omega
        case rel => exact ⟨k + 1, by omega, by omega, by go_num, by omega, (show Aside _ from BW.out.drewN _), (show Aside _ from Hs.out)⟩
  · have hkz : (0 : Int) < (i : Int) := by omega
    have hki : (0 : Int) ≤ (i : Int) - 1 := by omega
    have hki2 : (i : Int) - 1 < (l.length : Int) := by omega
    have hki3 : (1 : Int) ≤ (i : Int) := by omega
    have hkt : ((i : Int) - 1).toNat = i - 1 := by omega
    have d0 := HPREV.out hipos w1 HGW.out
    have hpv : PP ↔ (l[i - 1]'(by omega)).id < yi := by rw [← HPP.out]; exact ⟨fun h => h hipos, fun h _ => h⟩
    generalize (l[i - 1]'(by omega)).id = zi at d0 hpv
    have HPV := Lib.hid hpv
    clear hpv
    have hwr : IntKind.i64.wrap ((i : Int) - 1) = (i : Int) - 1 := IntWalk.i64_in _ (by omega)
    by_cases r : yi ≤ zi
    · have Hn : RowKit.Hid (¬ PA) := fun h => by have := HPV.out.1 (HD.out.1 h).2.2.2.1; omega
      go_wp2
      go_quiet (fail)
      clear hwr
      go_wp2
      go_ret
      exact RetIff.no 5 (by decide) Hn.out (HGW.out.drewN _)
    have r' : decide (yi ≤ zi) = false := by simpa using r
    have HPREVOK : RowKit.Hid PP := HPV.out.2 (by omega)
    clear r
    go_wp2
    go_quiet (fail)
    clear hwr
    go_wp2_with fail
    refine (KN.out _ (HGW.out.drewN _)).mono ?_
    rintro e w2 ⟨n, rfl, hnn, g2⟩
    have HNN := Lib.hid hnn
    have HG2 := Lib.hid (Grew.trans (Grew.drewN HG1.out _) g2)
    have HW2 := Lib.hid (Grew.trans (Grew.drewN HGW.out _) g2)
    have f5 := new_cell HG2.out 5 _ rfl
    clear hnn g2 e0 e1 e2 e3 e4 e5 HGW HG1
    dsimp only
    by_cases hz : n = 0
    case neg =>
      have hz' : (n != 0) = true := by simpa using hz
      have Hz := Lib.hid hz
      have Hn : RowKit.Hid (¬ PA) := fun h => Hz.out (HNN.out.2 (HD.out.1 h).2.2.2.2.1)
      clear hz
      go_wp2
      go_ret
      exact RetIff.no n Hz.out Hn.out HW2.out
    subst hz
    have HPN := Lib.hid (HNN.out.1 rfl)
    clear HNN
    by_cases h16 : 16 < nx.length
    · have h16' : (16 : Int) < (nx.length : Int) := by omega
      have Hn : RowKit.Hid (¬ PA) := fun h => by have := (HX.out.1 (HD.out.1 h).2.2.2.2.2).1; omega
      go_wp2
      go_ret
      exact RetIff.no 8 (by decide) Hn.out HW2.out
    have h16' : ¬ (16 : Int) < (nx.length : Int) := by omega
    go_wp2
    go_loopg [7] nx.length (fun gg s7 wr => ∃ k : Nat, 1 ≤ k ∧ nx.length - k ≤ gg ∧ s7 = .int .i64 k ∧ k ≤ 17 ∧ Aside (Grew w2 wr) ∧ Aside (∀ j (h : j < nx.length), 1 ≤ j → j < k → (nx[j - 1]'(by omega)) < nx[j]))
    case atStart => exact ⟨1, by omega, by omega, rfl, by omega, (show Aside _ from Grew.refl _), (show Aside _ from fun j h h1 h2 => by omega)⟩
    case round =>
      obtain ⟨k, hk1, hgk, rfl, hk17, BW, M⟩ := hrel
      have g5 := (BW.out.cell (p := ⟨w.heap.size, 5, none⟩) (World.block_lt_of_cell? w2 _ f5)).trans f5
      by_cases hlt : k < nx.length
      case neg =>
        have hltz : ¬ (k : Int) < (nx.length : Int) := by omega
        have Hx : RowKit.Hid PX := HX.out.2 ⟨by omega, fun j h h1 => M.out j h h1 (by omega)⟩
        have Hy : RowKit.Hid PA := HD.out.2 ⟨by first | rfl | trivial, by first | rfl | trivial, by first | rfl | trivial, HPREVOK.out, HPN.out, Hx.out⟩
        go_wp2
        go_ret
        exact RetIff.yes Hy.out (HW2.out.trans BW.out)
      have hltz : (k : Int) < (nx.length : Int) := by omega
      have h0k : (0 : Int) ≤ (k : Int) := by omega
      have hki : (0 : Int) ≤ (k : Int) - 1 := by omega
      have hki2 : (k : Int) - 1 < (nx.length : Int) := by omega
      have hki3 : (1 : Int) ≤ (k : Int) := by omega
      have hkt : ((k : Int) - 1).toNat = k - 1 := by omega
      obtain ⟨bx, ox, rfl, hbx, hcx2⟩ := HRX.out (by omega)
      have d1 := hcx2 wr (HW2.out.trans BW.out) k hlt
      have d2 := hcx2 wr (HW2.out.trans BW.out) (k - 1) (by omega)
      have HS : RowKit.Hid ((nx[k - 1]'(by omega)) < nx[k] → ∀ j (h : j < nx.length), 1 ≤ j → j < k + 1 → (nx[j - 1]'(by omega)) < nx[j]) := fun h j hj h1 h2 => by
        by_cases e : j = k
        · subst e; exact h
        · exact M.out j hj h1 (by omega)
      have HB : RowKit.Hid (¬ (nx[k - 1]'(by omega)) < nx[k] → ¬ PA) := fun h h2 => h ((HX.out.1 (HD.out.1 h2).2.2.2.2.2).2 k hlt hk1)
      clear hcx2
      generalize nx[k - 1]'(by omega) = z1 at d2 HS HB
      generalize nx[k] = z2 at d1 HS HB
      have hwr : IntKind.i64.wrap ((k : Int) - 1) = (k : Int) - 1 := IntWalk.i64_in _ (by omega)
      by_cases r : z2 ≤ z1
      · have Hn := Lib.hid (HB.out (by omega))
        go_wp2
        go_quiet (fail)
        clear hwr
        go_wp2
        go_ret
        exact RetIff.no 5 (by decide) Hn.out ((HW2.out.trans BW.out).drewN _)
      · have r' : decide (z2 ≤ z1) = false := by simpa using r
        have Hs := Lib.hid (HS.out (by omega))
        clear HS HB r
        go_wp2
        go_quiet (fail)
        clear hwr
        go_wp2
        go_roundg (nx.length - (k + 1))
        case measure => omega
        case rel => exact ⟨k + 1, by omega, by omega, by go_num, by omega, (show Aside _ from BW.out.drewN _), (show Aside _ from Hs.out)⟩
end Go.Proofs.YtfghbendiofbeaaGreatDoor
