/- Lemmas on what the functions of the program and of the library compute: A2. The conditions stand at each. -/
import Derived.Test.YtfghbendiofbeaaGreatDoorQ4
import Derived.Test.YtfghbendiofbeaaGreatDoorQ5
/- authority: names, alone: whether an authority is right by itself, walked. The condition: the library's own variables hold what they must. -/
namespace Go.Proofs.YtfghbendiofbeaaGreatDoor
open Go.RowKit

/-- A call that answers with a number, which is 0 just if P holds. -/
def RetIff (P : Prop) (w : World) (e : Ending) (w' : World) : Prop := ∃ n : Int, e = .returned (.int .i64 n) ∧ (n = 0 ↔ P) ∧ Grew w w'
theorem RetIff.no {P : Prop} {w w' : World} (n : Int) (hn : n ≠ 0) (h : ¬ P) (hg : Grew w w') : RetIff P w (.returned (.int .i64 n)) w' := ⟨n, rfl, ⟨fun e => absurd e hn, fun e => absurd e h⟩, hg⟩
theorem RetIff.yes {P : Prop} {w w' : World} (h : P) (hg : Grew w w') : RetIff P w (.returned (.int .i64 0)) w' := ⟨0, rfl, ⟨fun _ => h, fun _ => rfl⟩, hg⟩

/-- A cell of the block that was made last, later. -/
theorem new_cell {w W : World} {cs : List Value} {t : TypeId} (h : Grew (w.alloc (.cells cs.toArray t)) W) (j : Nat) (v : Value) (hj : cs[j]? = some v) : W.cell? ⟨w.heap.size, j, none⟩ = some v := by
  have hlast : (w.alloc (.cells cs.toArray t)).heap[w.heap.size]? = some (.cells cs.toArray t) := heap_alloc_last w _
  rw [h.cell (p := ⟨w.heap.size, j, none⟩) (by simp), cell_of_row _ _ _ _ _ _ hlast]
  simpa using hj
set_option maxHeartbeats 4000000 in
theorem names_any (a : Auth) (nv xv : Value) (w : World) (hE : Env w) (hn : SlN w nv a.names) :
    Calls Tryz.prog 137 #[.agg #[.int .i64 a.id, .int .i64 a.kind, .int .i64 a.fr, .int .i64 a.un, nv, xv]] w (RetIff (NamesOk a) w) := by
  obtain ⟨A, c, rfl, hlc, hc, hr⟩ := hn.open_
  unfold maxLen at hc
  have HR := Lib.hid hr
  have HE := Lib.hid hE
  have HP := Lib.hid (Iff.refl (NamesOk a))
  clear hr hn hE
  by_cases h0 : a.names.length = 0
  · have hb : ((a.names.length : Int) == 0) = true := by simp [h0]
    have Hn : RowKit.Hid (¬ NamesOk a) := fun h => by have := h.1.1; omega
    go_enter Tryz.func137, Tryz.ntmps137
    go_wp2
    go_ret
    exact RetIff.no 9 (by decide) Hn.out ((Grew.refl w).alloc _)
  have hb : ((a.names.length : Int) == 0) = false := by rw [beq_eq_false_iff_ne]; omega
  by_cases h16 : 16 < a.names.length
  · have hb2 : (16 : Int) < (a.names.length : Int) := by omega
    have Hn : RowKit.Hid (¬ NamesOk a) := fun h => by have := h.1.2; omega
    go_enter Tryz.func137, Tryz.ntmps137
    go_wp2
    go_ret
    exact RetIff.no 8 (by decide) Hn.out ((Grew.refl w).alloc _)
  have hb2 : ¬ (16 : Int) < (a.names.length : Int) := by omega
  obtain ⟨b, off, rfl, hbk, hcell⟩ := HR.out (by omega)
  have HCELL := Lib.hid hcell
  clear hcell HR
  go_enter Tryz.func137, Tryz.ntmps137
  go_wp2
  go_loopg [18] a.names.length (fun gg s wr => ∃ k : Nat, k ≤ a.names.length ∧ a.names.length - k ≤ gg ∧ s = .int .i64 k ∧ Aside (Grew (w.alloc (.cells [.int .i64 a.id, .int .i64 a.kind, .int .i64 a.fr, .int .i64 a.un, .slice (some ⟨b, off, none⟩) a.names.length c, xv].toArray 72)) wr) ∧ Aside (∀ i (h : i < a.names.length), i < k → NamOk a i h))
  case atStart => exact ⟨0, by omega, by omega, rfl, (show Aside _ from Grew.refl _), (show Aside _ from fun i h h2 => by omega)⟩
  case round =>
    obtain ⟨k, hk, hgk, rfl, BW, M⟩ := hrel
    have BW0 : Aside (Grew w wr) := ((Grew.refl w).alloc _).trans BW.out
    by_cases hlt : k < a.names.length
    case neg =>
      have hltz : ¬ (k : Int) < (a.names.length : Int) := by omega
      have Hy : RowKit.Hid (NamesOk a) := ⟨⟨by omega, by omega⟩, fun i h => M.out i h (by omega)⟩
      go_wp2
      go_ret
      exact RetIff.yes Hy.out BW0.out
    have hltz : (k : Int) < (a.names.length : Int) := by omega
    have h0z : (0 : Int) ≤ (k : Int) := by omega
    obtain ⟨c0, c1, c2⟩ := HCELL.out wr BW0.out k hlt
    have HN : RowKit.Hid (¬ NamOk a k hlt → ¬ NamesOk a) := fun h h2 => h (h2.2 k hlt)
    have HY : RowKit.Hid (NamOk a k hlt → ∀ i (h : i < a.names.length), i < k + 1 → NamOk a i h) := fun h i hi h2 => by
      by_cases e : i = k
      · subst e; exact h
      · exact M.out i hi (by omega)
    have HD : RowKit.Hid (NamOk a k hlt ↔ nameF a.names[k].text.data.toList = true ∧ spansF a.names[k].fr a.names[k].un = true ∧ a.fr ≤ a.names[k].fr ∧ a.names[k].un ≤ a.un ∧ (0 < k → (a.names[k - 1]'(by omega)).un ≤ a.names[k].fr)) := Iff.rfl
    generalize NamOk a k hlt = PK at HN HY HD
    generalize hy : a.names[k] = y at c0 c1 c2 HD
    clear hy
    obtain ⟨yt, yf, yu⟩ := y
    dsimp only at c0 c1 c2 HD
    have kn := fun W (hW : Grew w W) => aName yt W (HE.out.mono hW)
    have ks := aSpans yf yu
    generalize nameF yt.data.toList = q1 at kn HD
    generalize spansF yf yu = q2 at ks HD
    have KN := Lib.hid kn
    have KS := Lib.hid ks
    clear kn ks
    go_wp2_with fail
    have hA : Grew w (wr.alloc (.cells #[.string yt, .int .i64 yf, .int .i64 yu] 69)) := BW0.out.alloc _
    refine (KN.out _ hA).mono ?_
    rintro e w1 ⟨rfl, g1⟩
    have f1 := new_cell g1 1 (.int .i64 yf) rfl
    have f2 := new_cell g1 2 (.int .i64 yu) rfl
    have HG1 := Lib.hid g1
    have HA := Lib.hid hA
    clear g1 hA c0 c1 c2
    cases q1 with
    | false =>
      have Hn := Lib.hid (HN.out (fun h => by have := (HD.out.1 h).1; cases this))
      dsimp only
      go_wp2
      go_ret
      exact RetIff.no 4 (by decide) Hn.out (HA.out.trans HG1.out)
    | true =>
    dsimp only
    go_wp2_with fail
    refine (KS.out _).mono ?_
    rintro e w2 ⟨rfl, g2⟩
    have HG2 := Lib.hid (HG1.out.trans g2)
    have HGW := Lib.hid (HA.out.trans HG2.out)
    have hz1 : wr.heap.size < w1.heap.size := Nat.lt_of_lt_of_le (by simp) HG1.out.size
    have e1 := (g2.cell (p := ⟨wr.heap.size, 1, none⟩) hz1).trans f1
    have e2 := (g2.cell (p := ⟨wr.heap.size, 2, none⟩) hz1).trans f2
    have GB : Grew (w.alloc (.cells [.int .i64 a.id, .int .i64 a.kind, .int .i64 a.fr, .int .i64 a.un, .slice (some ⟨b, off, none⟩) a.names.length c, xv].toArray 72)) w2 := (BW.out.alloc _).trans HG2.out
    have b2 := new_cell GB 2 (.int .i64 a.fr) rfl
    have b3 := new_cell GB 3 (.int .i64 a.un) rfl
    have b4 := new_cell GB 4 (.slice (some ⟨b, off, none⟩) a.names.length c) rfl
    clear f1 f2 g2 HA HG1 hz1 GB
    cases q2 with
    | false =>
      have Hn := Lib.hid (HN.out (fun h => by have := (HD.out.1 h).2.1; cases this))
      dsimp only
      go_wp2
      go_ret
      exact RetIff.no 2 (by decide) Hn.out HGW.out
    | true =>
    dsimp only
    by_cases r1 : yf < a.fr
    · have Hn := Lib.hid (HN.out (fun h => by have := (HD.out.1 h).2.2.1; omega))
      go_wp2
      go_ret
      exact RetIff.no 10 (by decide) Hn.out HGW.out
    have r1' : decide (yf < a.fr) = false := by simpa using r1
    by_cases r2 : a.un < yu
    · have Hn := Lib.hid (HN.out (fun h => by have := (HD.out.1 h).2.2.2.1; omega))
      clear r1
      go_wp2
      go_ret
      exact RetIff.no 10 (by decide) Hn.out HGW.out
    have r2' : decide (a.un < yu) = false := by simpa using r2
    rcases Nat.eq_zero_or_pos k with hk0 | hkpos
    · subst hk0
      have Hy := Lib.hid (HY.out (HD.out.2 ⟨by first | rfl | trivial, by first | rfl | trivial, by omega, by omega, fun h => absurd h (Nat.lt_irrefl _)⟩))
      clear r1 r2 HN HY HD M
      go_wp2
      go_quiet (fail)
      go_wp2
      go_roundg (a.names.length - 1)
      case measure => omega
      case rel => exact ⟨1, by omega, by omega, by go_num, (show Aside _ from ((BW.out.alloc _).trans HG2.out).drewN _), (show Aside _ from Hy.out)⟩
    · have hkz : (0 : Int) < (k : Int) := by omega
      have hki : (0 : Int) ≤ (k : Int) - 1 := by omega
      have hki2 : (k : Int) - 1 < (a.names.length : Int) := by omega
      have hki3 : (1 : Int) ≤ (k : Int) := by omega
      have hkt : ((k : Int) - 1).toNat = k - 1 := by omega
      obtain ⟨-, -, d2⟩ := HCELL.out w2 HGW.out (k - 1) (by omega)
      generalize (a.names[k - 1]'(by omega)).un = zu at d2 HD
      have hwr : IntKind.i64.wrap ((k : Int) - 1) = (k : Int) - 1 := IntWalk.i64_in _ (by omega)
      by_cases r3 : yf < zu
      · have Hn := Lib.hid (HN.out (fun h => by have := (HD.out.1 h).2.2.2.2 hkpos; omega))
        clear r1 r2 HN HY HD M
        go_wp2
        go_quiet (fail)
        clear hwr
        go_wp2
        go_ret
        exact RetIff.no 5 (by decide) Hn.out (HGW.out.drewN _)
      · have r3' : decide (yf < zu) = false := by simpa using r3
        have Hy := Lib.hid (HY.out (HD.out.2 ⟨by first | rfl | trivial, by first | rfl | trivial, by omega, by omega, fun _ => by omega⟩))
        clear r1 r2 r3 HN HY HD M
        go_wp2
        go_quiet (fail)
        clear hwr
        go_wp2
        go_roundg (a.names.length - (k + 1))
        case measure => omega
        case rel => exact ⟨k + 1, by omega, by omega, by go_num, (show Aside _ from ((BW.out.alloc _).trans HG2.out).drewN _), (show Aside _ from Hy.out)⟩
end Go.Proofs.YtfghbendiofbeaaGreatDoor
