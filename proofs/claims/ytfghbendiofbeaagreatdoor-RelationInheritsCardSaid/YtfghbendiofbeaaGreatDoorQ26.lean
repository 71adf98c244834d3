/- Lemmas on what the functions of the program and of the library compute: Cp. The conditions stand at each. -/
import Derived.Test.YtfghbendiofbeaaGreatDoorQ25
import Derived.Test.YtfghbendiofbeaaGreatDoorQ10
import Derived.Deep.RegionHeld3
import Derived.Deep.RegionLaw
import Derived.Deep.DeepCutAuto
/- The verifier's copy of a list of authorities, walked: a list that reads the same. The condition: the lists are short. -/
namespace Go.Proofs.YtfghbendiofbeaaGreatDoor
open Go.RowKit

theorem cinfoA : (Tryz.prog.info? 72).map (fun i => (i.zero, i.size, i.bytes)) = some (some (.agg #[.int .i64 0, .int .i64 0, .int .i64 0, .int .i64 0, .slice none 0 0, .slice none 0 0]), 6, 80) := by kernel_rfl
/-- The slice lies in no block of the row s, and in one that is there. -/
def Off (s : Value) (w : World) (v : Value) : Prop := ∀ k, v.ownBlock = some k → k < w.heap.size ∧ s.ownBlock ≠ some k
/-- The copies so far. -/
def CopiedA (l : List Auth) (base : Nat) (k : Nat) (s : Value) (w : World) : Prop := ∃ cs : List AuC, w.ownsRow base 72 6 s k (cs.flatMap AuC.cells) ∧ cs.length = k ∧ ∀ i (h : i < cs.length) (h' : i < l.length), AuOk w cs[i] l[i] ∧ Off s w cs[i].nv ∧ Off s w cs[i].xv
theorem CopiedA.done {l : List Auth} {base : Nat} {s : Value} {w : World} (h : CopiedA l base l.length s w) : SlAu w s l := by
  obtain ⟨cs, ho, hl, hr⟩ := h
  exact ⟨cs, Rd.of_own ho, hl, fun i h h' => (hr i h h').1⟩
theorem CopiedA.step {l : List Auth} {base k : Nat} {s s' : Value} {w w2 w3 : World} {cs : List AuC} (ho : w.ownsRow base 72 6 s k (cs.flatMap AuC.cells)) (hl : cs.length = k) (hr : ∀ i (h : i < cs.length) (h' : i < l.length), AuOk w cs[i] l[i] ∧ Off s w cs[i].nv ∧ Off s w cs[i].xv) (hk : k < l.length) (c : AuC) (g : Grew w w2) (hc : AuOk w2 c l[k]) (h1 : Lies w.heap.size w2 c.nv) (h2 : Lies w.heap.size w2 c.xv)
    (hgr : w2.grownBy w3 s.ownBlock) (hown : w3.ownsRow base 72 6 s' (k + 1) (cs.flatMap AuC.cells ++ c.cells)) (hat : ∀ b, s'.ownBlock = some b → s.ownBlock = some b ∨ w2.heap.size ≤ b) : CopiedA l base (k + 1) s' w3 := by
  have hlow := fun b hb => (ho.lt b hb).2
  have hsz := g.size
  refine ⟨cs ++ [c], ?_, by simp [hl], fun i hi hi' => ?_⟩
  · rw [List.flatMap_append]
    simpa using hown
  have key : ∀ (d : AuC) (a : Auth), AuOk w2 d a → (∀ b, d.nv.ownBlock = some b → b < w2.heap.size ∧ s.ownBlock ≠ some b) → (∀ b, d.xv.ownBlock = some b → b < w2.heap.size ∧ s.ownBlock ≠ some b) → AuOk w3 d a ∧ Off s' w3 d.nv ∧ Off s' w3 d.xv := by
    intro d a hd hn hx
    refine ⟨⟨hd.1, rd_grown hd.2.1 hgr (fun b hb => (hn b hb).2), rd_grown hd.2.2 hgr (fun b hb => (hx b hb).2)⟩, fun b hb => ?_, fun b hb => ?_⟩
    · refine ⟨Nat.lt_of_lt_of_le (hn b hb).1 hgr.size, fun e => ?_⟩
      rcases hat b e with h | h
      · exact (hn b hb).2 h
      · have := (hn b hb).1; omega
    · refine ⟨Nat.lt_of_lt_of_le (hx b hb).1 hgr.size, fun e => ?_⟩
      rcases hat b e with h | h
      · exact (hx b hb).2 h
      · have := (hx b hb).1; omega
  by_cases hik : i < cs.length
  · rw [List.getElem_append_left hik]
    obtain ⟨r1, r2, r3⟩ := hr i hik hi'
    exact key _ _ (r1.mono g) (fun b hb => ⟨by have := (r2 b hb).1; omega, (r2 b hb).2⟩) (fun b hb => ⟨by have := (r3 b hb).1; omega, (r3 b hb).2⟩)
  · have : i = k := by simp at hi; omega
    subst this
    rw [List.getElem_append_right (by omega)]
    simp only [hl, Nat.sub_self, List.getElem_cons_zero]
    exact key c _ hc (fun b hb => ⟨(h1 b hb).2, fun e => by have := hlow b e; have := (h1 b hb).1; omega⟩) (fun b hb => ⟨(h2 b hb).2, fun e => by have := hlow b e; have := (h2 b hb).1; omega⟩)
/-- What the statement leaves: the two copies, and the authority that leads to them. -/
def CopyCut (B : Nat) (WA : World) (yn : List Nam) (yx : List Int) (wx : World) : Prop := ∃ A1 n1 d1 A2 n2 d2 w2, Grew WA w2 ∧ Rd w2 3 (.slice A1 n1 d1) (yn.flatMap Nam.cells) ∧ Rd w2 1 (.slice A2 n2 d2) (yx.flatMap oneI) ∧ Lies WA.heap.size w2 (.slice A1 n1 d1) ∧ Lies WA.heap.size w2 (.slice A2 n2 d2) ∧ wx = (w2.setCell ⟨B, 4, none⟩ (.slice A1 n1 d1)).setCell ⟨B, 5, none⟩ (.slice A2 n2 d2)
theorem rd_off {W : World} {k : Nat} {v : Value} {cs : List Value} {p : Addr} (u : Value) (h : Rd W k v cs) (hp : ∀ b, v.ownBlock = some b → b ≠ p.block) : Rd (W.setCell p u) k v cs := by
  obtain ⟨A, n, c, rfl, hl, hn, hc, h0⟩ := h
  refine ⟨A, n, c, rfl, hl, hn, hc, fun hpos => ?_⟩
  obtain ⟨b, off, rfl, hb, hcell⟩ := h0 hpos
  refine ⟨b, off, rfl, by simpa using hb, fun j x hx => ?_⟩
  rw [World.cell?_setCell_other _ _ _ _ (fun e => hp b rfl (by subst e; rfl))]
  exact hcell j x hx
theorem keep2 (w1 W : World) (p q : Addr) {x y : Value} (h : w1.cell? p = some x) (k : w1.cell? q = some y) (g : Grew w1 W) : W.cell? p = some x ∧ W.cell? q = some y := ⟨keep_cell g h, keep_cell g k⟩
set_option maxHeartbeats 8000000 in
set_option maxRecDepth 100000 in
theorem copy23 (l : List Auth) (v : Value) (w : World) (hv : SlAu w v l) (hf : FewAu l) (hl : l.length ≤ 1000000) : Calls Tryz.prog 14 #[v] w fun e w' => ∃ v', e = .returned v' ∧ SlAu w' v' l ∧ Grew w w' := by
  obtain ⟨A, c, rfl, hlc, hc, hr⟩ := hv.open_
  unfold maxLen at hc
  have HR := Lib.hid hr
  have HF := Lib.hid hf
  obtain ⟨i0, hi, hz0, hz1, hz2⟩ := info_parts cinfoA
  obtain ⟨j0, hj, hy0, hy1, hy2⟩ := info_parts cinfoN
  obtain ⟨k0, hk, hx0, hx1, hx2⟩ := info_parts cinfoI
  clear hr hv hf
  go_enter Tryz.func14, Tryz.ntmps14
  go_wp2
  go_loopg [3, 4] l.length (fun gg s3 s4 wr => ∃ k : Nat, k ≤ l.length ∧ l.length - k ≤ gg ∧ s4 = .int .i64 k ∧ Aside (CopiedA l w.heap.size k s3 wr) ∧ Aside (Grew w wr))
  case atStart => exact ⟨0, by omega, by omega, rfl, (show Aside _ from ⟨[], World.ownsRow_nil _ _ _ _, rfl, fun i h => absurd h (Nat.not_lt_zero _)⟩), (show Aside _ from Grew.refl _)⟩
  case round =>
    obtain ⟨k, hkl, hgk, rfl, OW, BW⟩ := hrel
    by_cases hlt : k < l.length
    · have hltz : (k : Int) < (l.length : Int) := by omega
      have h0z : (0 : Int) ≤ (k : Int) := by omega
      obtain ⟨b, off, rfl, hb, hcell⟩ := HR.out (by omega)
      obtain ⟨nv, xv, hn, hx, hcl⟩ := hcell k hlt
      obtain ⟨c0, c1, c2, c3, c4, c5⟩ := hcl wr BW.out
      have HN := Lib.hid hn
      have HX := Lib.hid hx
      have hfk := HF.out k hlt
      obtain ⟨An, cn, rfl, -, -, -⟩ := hn.open_
      obtain ⟨Ax, cx, rfl, -, -, -⟩ := hx.open_
      clear hcell hcl hn hx
      obtain ⟨cs, ho, hcl0, hcr⟩ := OW.out
      have HST := Lib.hid (fun s' w2 w3 c => CopiedA.step (s' := s') (w2 := w2) (w3 := w3) ho hcl0 hcr hlt c)
      have HOW := Lib.hid ho
      have hlow : ∀ b, u3.ownBlock = some b → b < wr.heap.size := fun b hb => (ho.lt b hb).2
      have HLOW := Lib.hid hlow
      clear ho hcl0 hcr hlow OW
      generalize l[k] = y at c0 c1 c2 c3 c4 c5 HN HX hfk HST
      obtain ⟨yi, yk, yf, yu, yn, yx⟩ := y
      dsimp only at c0 c1 c2 c3 c4 c5 HN HX hfk HST
      go_wp2
      have hfl := flatMap_len Nam.cells 3 (fun _ => rfl) yn
      have hfx := flatMap_len oneI 1 (fun _ => rfl) yx
      have a0 := new_cell (Grew.refl (wr.alloc (.cells #[.int .i64 yi, .int .i64 yk, .int .i64 yf, .int .i64 yu, .slice An yn.length cn, .slice Ax yx.length cx] 72))) 0 _ rfl
      have a1 := new_cell (Grew.refl (wr.alloc (.cells #[.int .i64 yi, .int .i64 yk, .int .i64 yf, .int .i64 yu, .slice An yn.length cn, .slice Ax yx.length cx] 72))) 1 _ rfl
      have a2 := new_cell (Grew.refl (wr.alloc (.cells #[.int .i64 yi, .int .i64 yk, .int .i64 yf, .int .i64 yu, .slice An yn.length cn, .slice Ax yx.length cx] 72))) 2 _ rfl
      have a3 := new_cell (Grew.refl (wr.alloc (.cells #[.int .i64 yi, .int .i64 yk, .int .i64 yf, .int .i64 yu, .slice An yn.length cn, .slice Ax yx.length cx] 72))) 3 _ rfl
      have a4 := new_cell (Grew.refl (wr.alloc (.cells #[.int .i64 yi, .int .i64 yk, .int .i64 yf, .int .i64 yu, .slice An yn.length cn, .slice Ax yx.length cx] 72))) 4 _ rfl
      have a5 := new_cell (Grew.refl (wr.alloc (.cells #[.int .i64 yi, .int .i64 yk, .int .i64 yf, .int .i64 yu, .slice An yn.length cn, .slice Ax yx.length cx] 72))) 5 _ rfl
      have z4 : (wr.alloc (.cells #[.int .i64 yi, .int .i64 yk, .int .i64 yf, .int .i64 yu, .slice An yn.length cn, .slice Ax yx.length cx] 72)).frozen? ⟨wr.heap.size, 4, none⟩ = false := by simp
      have z5 : (wr.alloc (.cells #[.int .i64 yi, .int .i64 yk, .int .i64 yf, .int .i64 yu, .slice An yn.length cn, .slice Ax yx.length cx] 72)).frozen? ⟨wr.heap.size, 5, none⟩ = false := by simp
      have hB : wr.heap.size < (wr.alloc (.cells #[.int .i64 yi, .int .i64 yk, .int .i64 yf, .int .i64 yu, .slice An yn.length cn, .slice Ax yx.length cx] 72)).heap.size := by simp
      have GA := Lib.hid ((Grew.refl wr).alloc (.cells #[.int .i64 yi, .int .i64 yk, .int .i64 yf, .int .i64 yu, .slice An yn.length cn, .slice Ax yx.length cx] 72))
      have BA := Lib.hid (BW.out.alloc (.cells #[.int .i64 yi, .int .i64 yk, .int .i64 yf, .int .i64 yu, .slice An yn.length cn, .slice Ax yx.length cx] 72))
      clear c0 c1 c2 c3 c4 c5
      generalize wr.alloc (.cells #[.int .i64 yi, .int .i64 yk, .int .i64 yf, .int .i64 yu, .slice An yn.length cn, .slice Ax yx.length cx] 72) = WA at a0 a1 a2 a3 a4 a5 z4 z5 hB GA BA ⊢
      have hne : wr.heap.size ≠ WA.heap.size := by omega
      have hsz3 : 0 < 3 := by omega
      have hsz1 : 0 < 1 := by omega
      have h63 : yn.length ≤ maxLen := by unfold maxLen; omega
      have hbt : yn.length * 32 ≤ 140737488355328 := by omega
      have h63x : yx.length ≤ maxLen := by unfold maxLen; omega
      have hbx : yx.length * 8 ≤ 140737488355328 := by omega
      have HRN := Lib.hid (show ∀ W, Grew WA W → Rd W 3 (.slice An yn.length cn) (yn.flatMap Nam.cells) from fun W hW => Rd.mono HN.out (BA.out.trans hW))
      have HRX := Lib.hid (show ∀ W, Grew WA W → Rd W 1 (.slice Ax yx.length cx) (yx.flatMap oneI) from fun W hW => Rd.mono HX.out (BA.out.trans hW))
      have hmeet := Lib.hid (fun A1 n1 d1 A2 n2 d2 w2 h1 h2 h3 h4 h5 => (⟨A1, n1, d1, A2, n2, d2, w2, h1, h2, h3, h4, h5, rfl⟩ : CopyCut wr.heap.size WA yn yx ((w2.setCell ⟨wr.heap.size, 4, none⟩ (.slice A1 n1 d1)).setCell ⟨wr.heap.size, 5, none⟩ (.slice A2 n2 d2))))
      go_cut [] from 6 to 29 (fun wx => CopyCut wr.heap.size WA yn yx wx)
      case first =>
        go_region_law (first | (refine stepE (o := ⟨some 19, _, _, _, _, _⟩) (by rfl) (.tmp 16) (.tmp 18) 70 (by rfl) 69 j0 (.agg #[.string ⟨#[]⟩, .int .i64 0, .int .i64 0]) 3 32 Tryz.underlying70 hj hy0 hy1 hy2 hsz3 _ (by rfl) _ (.slice An yn.length cn) yn.length (yn.flatMap Nam.cells) (by rfl) (HRN.out _ (by repeat (first | exact Grew.refl WA | exact GA2.out | exact GA1.out | refine Grew.drew ?_ | refine Grew.drewN ?_ _ | refine Grew.alloc ?_ _))) hfl h63 hbt WA.heap.size (by simp) (by first | omega | (simp; done) | (simp; omega)) ?_; intro A1 n1 d1 w1 hr1 g1 o1; have GA1 := Lib.hid (show Grew WA w1 from Grew.trans (by repeat (first | exact Grew.refl WA | exact GA2.out | exact GA1.out | refine Grew.drew ?_ | refine Grew.drewN ?_ _ | refine Grew.alloc ?_ _)) g1); have HR1 := Lib.hid hr1; have HO1 := Lib.hid o1; have hq1 := g1.size; (try simp at hq1); have hs1 := GA1.out.size; have x14 := keep_cell GA1.out a4; have x15 := keep_cell GA1.out a5; have y14 := (GA1.out.frozen (p := ⟨wr.heap.size, 4, none⟩) hB).trans z4; have y15 := (GA1.out.frozen (p := ⟨wr.heap.size, 5, none⟩) hB).trans z5; have hB1 : wr.heap.size < w1.heap.size := (by omega); clear g1 hr1 o1) | (refine stepE (o := ⟨some 23, _, _, _, _, _⟩) (by rfl) (.tmp 20) (.tmp 22) 43 (by rfl) 3 k0 (.int .i64 0) 1 8 Tryz.underlying43 hk hx0 hx1 hx2 hsz1 _ (by rfl) _ (.slice Ax yx.length cx) yx.length (yx.flatMap oneI) (by rfl) (HRX.out _ (by repeat (first | exact Grew.refl WA | exact GA2.out | exact GA1.out | refine Grew.drew ?_ | refine Grew.drewN ?_ _ | refine Grew.alloc ?_ _))) hfx h63x hbx WA.heap.size (by first | omega | simp) (by first | omega | simp | (simp; omega)) ?_; intro A2 n2 d2 w2 hr2 g2 o2; have GA2 := Lib.hid (show Grew WA w2 from Grew.trans (by repeat (first | exact Grew.refl WA | exact GA2.out | exact GA1.out | refine Grew.drew ?_ | refine Grew.drewN ?_ _ | refine Grew.alloc ?_ _)) g2); have HR2 := Lib.hid hr2; have HO2 := Lib.hid o2; have G12 := Lib.hid (show Grew w1 w2 from Grew.trans (by repeat (first | exact Grew.refl w1 | refine Grew.drew ?_ | refine Grew.drewN ?_ _ | refine Grew.alloc ?_ _)) g2); have hs2 := GA2.out.size; have x24 := keep_cell GA2.out a4; have x25 := keep_cell GA2.out a5; have y24 := (GA2.out.frozen (p := ⟨wr.heap.size, 4, none⟩) hB).trans z4; have y25 := (GA2.out.frozen (p := ⟨wr.heap.size, 5, none⟩) hB).trans z5; have hB2 : wr.heap.size < w2.heap.size := (by omega); clear g2 hr2 o2))
        all_goals go_wp2_with fail
        all_goals go_meet
        all_goals exact hmeet.out _ _ _ _ _ _ _ GA2.out (Rd.mono HR1.out G12.out) HR2.out (HO1.out.mono G12.out.size) HO2.out
      case rest =>
        obtain ⟨A1, n1, d1, A2, n2, d2, w2, GA2, HR1, HR2, HO1, HO2, rfl⟩ := hcut
        have hs2 := GA2.size
        have r0 : ((w2.setCell ⟨wr.heap.size, 4, none⟩ (.slice A1 n1 d1)).setCell ⟨wr.heap.size, 5, none⟩ (.slice A2 n2 d2)).cell? ⟨wr.heap.size, 0, none⟩ = some (.int .i64 yi) := by rw [World.cell?_setCell_other _ _ _ _ (by simp), World.cell?_setCell_other _ _ _ _ (by simp)]; exact keep_cell GA2 a0
        have r1 : ((w2.setCell ⟨wr.heap.size, 4, none⟩ (.slice A1 n1 d1)).setCell ⟨wr.heap.size, 5, none⟩ (.slice A2 n2 d2)).cell? ⟨wr.heap.size, 1, none⟩ = some (.int .i64 yk) := by rw [World.cell?_setCell_other _ _ _ _ (by simp), World.cell?_setCell_other _ _ _ _ (by simp)]; exact keep_cell GA2 a1
        have r2 : ((w2.setCell ⟨wr.heap.size, 4, none⟩ (.slice A1 n1 d1)).setCell ⟨wr.heap.size, 5, none⟩ (.slice A2 n2 d2)).cell? ⟨wr.heap.size, 2, none⟩ = some (.int .i64 yf) := by rw [World.cell?_setCell_other _ _ _ _ (by simp), World.cell?_setCell_other _ _ _ _ (by simp)]; exact keep_cell GA2 a2
        have r3 : ((w2.setCell ⟨wr.heap.size, 4, none⟩ (.slice A1 n1 d1)).setCell ⟨wr.heap.size, 5, none⟩ (.slice A2 n2 d2)).cell? ⟨wr.heap.size, 3, none⟩ = some (.int .i64 yu) := by rw [World.cell?_setCell_other _ _ _ _ (by simp), World.cell?_setCell_other _ _ _ _ (by simp)]; exact keep_cell GA2 a3
        have r4 : ((w2.setCell ⟨wr.heap.size, 4, none⟩ (.slice A1 n1 d1)).setCell ⟨wr.heap.size, 5, none⟩ (.slice A2 n2 d2)).cell? ⟨wr.heap.size, 4, none⟩ = some (.slice A1 n1 d1) := by rw [World.cell?_setCell_other _ _ _ _ (by simp)]; exact World.cell?_setCell_same' _ _ _ (by rw [keep_cell GA2 a4]; rfl)
        have r5 : ((w2.setCell ⟨wr.heap.size, 4, none⟩ (.slice A1 n1 d1)).setCell ⟨wr.heap.size, 5, none⟩ (.slice A2 n2 d2)).cell? ⟨wr.heap.size, 5, none⟩ = some (.slice A2 n2 d2) := World.cell?_setCell_same' _ _ _ (by rw [World.cell?_setCell_other _ _ _ _ (by simp), keep_cell GA2 a5]; rfl)
        have gX : Grew wr ((w2.setCell ⟨wr.heap.size, 4, none⟩ (.slice A1 n1 d1)).setCell ⟨wr.heap.size, 5, none⟩ (.slice A2 n2 d2)) := ((GA.out.trans GA2).setCell (Nat.le_refl _) _).setCell (Nat.le_refl _) _
        have t1 : Rd ((w2.setCell ⟨wr.heap.size, 4, none⟩ (.slice A1 n1 d1)).setCell ⟨wr.heap.size, 5, none⟩ (.slice A2 n2 d2)) 3 (.slice A1 n1 d1) (yn.flatMap Nam.cells) := rd_off _ (rd_off _ HR1 (fun b hb => by have := (HO1 b hb).1; simp; omega)) (fun b hb => by have := (HO1 b hb).1; simp; omega)
        have t2 : Rd ((w2.setCell ⟨wr.heap.size, 4, none⟩ (.slice A1 n1 d1)).setCell ⟨wr.heap.size, 5, none⟩ (.slice A2 n2 d2)) 1 (.slice A2 n2 d2) (yx.flatMap oneI) := rd_off _ (rd_off _ HR2 (fun b hb => by have := (HO2 b hb).1; simp; omega)) (fun b hb => by have := (HO2 b hb).1; simp; omega)
        have l1 : Lies wr.heap.size ((w2.setCell ⟨wr.heap.size, 4, none⟩ (.slice A1 n1 d1)).setCell ⟨wr.heap.size, 5, none⟩ (.slice A2 n2 d2)) (.slice A1 n1 d1) := fun b hb => ⟨by have := (HO1 b hb).1; omega, by simpa using (HO1 b hb).2⟩
        have l2 : Lies wr.heap.size ((w2.setCell ⟨wr.heap.size, 4, none⟩ (.slice A1 n1 d1)).setCell ⟨wr.heap.size, 5, none⟩ (.slice A2 n2 d2)) (.slice A2 n2 d2) := fun b hb => ⟨by have := (HO2 b hb).1; omega, by simpa using (HO2 b hb).2⟩
        generalize (w2.setCell ⟨wr.heap.size, 4, none⟩ (.slice A1 n1 d1)).setCell ⟨wr.heap.size, 5, none⟩ (.slice A2 n2 d2) = WX at r0 r1 r2 r3 r4 r5 gX t1 t2 l1 l2 ⊢
        have HOX := Lib.hid ((own_later HOW.out gX).alloc (.cells #[.int .i64 yi, .int .i64 yk, .int .i64 yf, .int .i64 yu, .slice A1 n1 d1, .slice A2 n2 d2] 72))
        have HGX := Lib.hid gX
        have HTL := Lib.hid (show Rd _ 3 _ _ ∧ Rd _ 1 _ _ ∧ Lies _ _ _ ∧ Lies _ _ _ from ⟨t1, t2, l1, l2⟩)
        have hwx : w.heap.size ≤ WX.heap.size := (BW.out.trans gX).size
        have hkm : k + 1 ≤ 1000001 := by omega
        clear gX t1 t2 l1 l2 HR1 HR2 HO1 HO2 GA2 a0 a1 a2 a3 a4 a5 z4 z5 hmeet hne hB hs2 hfl hfx hsz3 hsz1 h63 hbt h63x hbx HRN HRX hfk
        go_wp2_with (at_builtin; refine wpList_append_lies _ rfl _ _ 22 rfl w.heap.size 72 i0 (.agg #[.int .i64 0, .int .i64 0, .int .i64 0, .int .i64 0, .slice none 0 0, .slice none 0 0]) 6 80 Tryz.underlying22 hi hz0 hz1 hz2 rfl (by omega) _ k _ (by rfl) HOX.out ⟨WX.heap.size, 0, none⟩ 1 1 [.int .i64 yi, .int .i64 yk, .int .i64 yf, .int .i64 yu, .slice A1 n1 d1, .slice A2 n2 d2] (by rfl) rfl (fun j u hj => by rw [add_lit, Nat.zero_add]; exact new_cell (Grew.refl _) j u hj) (fun u hu => by simp at hu; rcases hu with rfl | rfl | rfl | rfl | rfl | rfl <;> rfl) (by omega) (by unfold maxLen; omega) (by omega) (by simp; omega) (WX.heap.size + 1) (by simp) ?_; intro g3 cap3 w3 hown3 hgr3 hat3 hlt3)
        have HFIN := Lib.hid (HST.out (.slice (some ⟨g3, 0, none⟩) (k + 1) cap3) _ w3 ⟨yi, yk, yf, yu, .slice A1 n1 d1, .slice A2 n2 d2⟩ (HGX.out.alloc _) ⟨rfl, Rd.mono HTL.out.1 ((Grew.refl _).alloc _), Rd.mono HTL.out.2.1 ((Grew.refl _).alloc _)⟩ (HTL.out.2.2.1.mono (by simp)) (HTL.out.2.2.2.mono (by simp)) hgr3 hown3 (fun b hb => by
          simp [Value.ownBlock] at hb
          subst hb
          rcases hat3 with h | h
          · exact .inl h
          · right; rw [h]; simp))
        have HGF := Lib.hid (show Grew w w3 from Below.grown ((BW.out.trans HGX.out).alloc _) hgr3 (by simp; omega) (fun b hb => (HOX.out.lt b hb).1))
        clear hown3 hgr3 hat3 hlt3
        go_wp2
        go_roundg (l.length - (k + 1))
        case measure => omega
        case rel => exact ⟨k + 1, by omega, by omega, by go_num, (show Aside _ from HFIN.out), (show Aside _ from HGF.out)⟩
    · have hltz : ¬ (k : Int) < (l.length : Int) := by omega
      obtain rfl : k = l.length := by omega
      go_wp2
      go_ret
      exact ⟨_, rfl, OW.out.done, BW.out⟩
end Go.Proofs.YtfghbendiofbeaaGreatDoor
