/- Lemmas on what the functions of the program and of the library compute: Ad. The conditions stand at each. -/
import Derived.Test.YtfghbendiofbeaaGreatDoorQ19
import Derived.Test.YtfghbendiofbeaaGreatDoorQ11
import Derived.Test.YtfghbendiofbeaaGreatDoorQ16
import Derived.Deep.RegionHeld3
/- relation.Add, walked. The conditions: the library's own variables hold what they must; the lists are short. -/
namespace Go.Proofs.YtfghbendiofbeaaGreatDoor
open Go.RowKit

/-- A relation lies in the block B. -/
def BoxR (w : World) (B : Nat) (x : Rel) : Prop := w.cell? ⟨B, 0, none⟩ = some (.int .i64 x.unit) ∧ w.cell? ⟨B, 1, none⟩ = some (.int .i64 x.role) ∧ w.cell? ⟨B, 2, none⟩ = some (.int .i64 x.auth) ∧ w.cell? ⟨B, 3, none⟩ = some (.int .i64 x.fr) ∧ w.cell? ⟨B, 4, none⟩ = some (.int .i64 x.un)
theorem BoxR.mono {w w' : World} {B : Nat} {x : Rel} (h : BoxR w B x) (g : Grew w w') : BoxR w' B x := ⟨keep_cell g h.1, keep_cell g h.2.1, keep_cell g h.2.2.1, keep_cell g h.2.2.2.1, keep_cell g h.2.2.2.2⟩
theorem BoxR.new (w : World) (x : Rel) (t : TypeId) : BoxR (w.alloc (.cells x.cells.toArray t)) w.heap.size x :=
  ⟨new_cell (Grew.refl _) 0 _ rfl, new_cell (Grew.refl _) 1 _ rfl, new_cell (Grew.refl _) 2 _ rfl, new_cell (Grew.refl _) 3 _ rfl, new_cell (Grew.refl _) 4 _ rfl⟩
theorem containsFuncR (l : List Rel) (p : Rel → Bool) (g : Nat) (lb : Array Value) (eg : ∀ args w, (callFunc g args).run Tryz.prog w = .ok (.enter g args) w) (v : Value) (w : World) (hv : SlR w v l)
    (hp : ∀ W x, Grew w W → x ∈ l → Calls Tryz.prog g (#[x.agg] ++ lb) W fun e w' => e = .returned (.bool (p x)) ∧ Grew W w') :
    Calls Tryz.prog 55 #[v, .func (.func g) #[] lb] w fun e w' => e = .returned (.bool (l.any p)) ∧ Grew w w' := by
  have hi := Lib.hid (indexFuncR l p g lb eg v w hv hp)
  have hd : decide (0 ≤ idxP p l) = l.any p := idxP_any p l
  generalize idxP p l = i at hi hd
  have Hd := Lib.hid hd
  clear hv hp hd
  go_enter Tryz.func55, Tryz.ntmps55
  go_wp2_with (first | (go_at_call 86; refine hi.out.mono ?_; rintro e w1 ⟨rfl, hg⟩))
  go_ret
  exact ⟨ret_bool Hd.out, hg⟩
theorem enters_meets : ∀ args w, (callFunc 54 args).run Tryz.prog w = .ok (.enter 54 args) w := enters_of Tryz.func54 (by kernel_rfl) rfl
set_option maxHeartbeats 2000000 in
theorem rMeets (x y : Rel) (B : Nat) (W : World) (hB : BoxR W B x) : Calls Tryz.prog 54 (#[y.agg] ++ #[.pointer (some ⟨B, 0, none⟩)]) W fun e w' => e = .returned (.bool (meetsR x y)) ∧ Grew W w' := by
  have kS := rSame x y
  obtain ⟨d0, d1, d2, d3, d4⟩ := hB
  have hlt : B < W.heap.size := World.block_lt_of_cell? W _ d0
  have hne : B ≠ W.heap.size := by omega
  unfold meetsR
  generalize sameR x y = s at kS ⊢
  obtain ⟨xu, xr, xa, xf, xn⟩ := x
  obtain ⟨yu, yr, ya, yf, yn⟩ := y
  unfold Rel.agg at kS ⊢
  dsimp only at d0 d1 d2 d3 d4 kS ⊢
  have KS := Lib.hid kS
  clear kS
  show Calls Tryz.prog 54 #[.agg #[.int .i64 yu, .int .i64 yr, .int .i64 ya, .int .i64 yf, .int .i64 yn], .pointer (some ⟨B, 0, none⟩)] W _
  cases s <;> cases a1 : decide (xf < yn) <;> cases a2 : decide (yf < xn)
  all_goals
    go_enter Tryz.func54, Tryz.ntmps54
    go_wp2_with fail
    refine (KS.out _).mono ?_
    rintro e w1 ⟨rfl, g1⟩
    have e3 := new_cell g1 3 _ rfl
    have e4 := new_cell g1 4 _ rfl
    have f3 := keep_cell (((Grew.refl W).alloc _).trans g1) d3
    have f4 := keep_cell (((Grew.refl W).alloc _).trans g1) d4
    have HG1 := Lib.hid g1
    clear g1
    dsimp only
    go_wp2
    go_ret
    exact ⟨rfl, ((Grew.refl W).alloc _).trans HG1.out⟩
def RetRel (r : List Rel × Int) (w : World) (e : Ending) (w' : World) : Prop := ∃ v, e = .returned (.tuple #[v, .int .i64 r.2]) ∧ SlR w' v r.1 ∧ Grew w w' ∧ Fresh w.heap.size v
theorem heldBox (w1 W : World) (B : Nat) (v0 v1 v2 v3 v4 : Value) (h0 : w1.cell? ⟨B, 0, none⟩ = some v0) (h1 : w1.cell? ⟨B, 1, none⟩ = some v1) (h2 : w1.cell? ⟨B, 2, none⟩ = some v2) (h3 : w1.cell? ⟨B, 3, none⟩ = some v3) (h4 : w1.cell? ⟨B, 4, none⟩ = some v4) (g : Grew w1 W) :
    W.cell? ⟨B, 0, none⟩ = some v0 ∧ W.cell? ⟨B, 1, none⟩ = some v1 ∧ W.cell? ⟨B, 2, none⟩ = some v2 ∧ W.cell? ⟨B, 3, none⟩ = some v3 ∧ W.cell? ⟨B, 4, none⟩ = some v4 ∧ Grew w1 W := ⟨keep_cell g h0, keep_cell g h1, keep_cell g h2, keep_cell g h3, keep_cell g h4, g⟩
theorem insA (l : List Rel) (x : Rel) (P0 : Nat) (v : Value) (W5 w6 : World) (hown : w6.ownsRow W5.heap.size 27 5 v l.length (l.flatMap Rel.cells)) (g : Grew W5 w6) (hP : P0 ≤ l.length) (hl : l.length ≤ 1000000) :
    Calls Tryz.prog 57 #[v, .int .i64 P0, .slice (some ⟨w6.heap.size, 0, none⟩) 1 1] (w6.alloc (.cells x.cells.toArray 27)) (RetOwn 5 ((l.take P0 ++ [x] ++ l.drop P0).flatMap Rel.cells) W5) :=
  insertR W5 l x P0 w6.heap.size v _ (hown.alloc _) (g.alloc _) hP hl (heap_alloc_last w6 _) (fun e => by have := (hown.lt _ e.symm).2; omega)
theorem insB (l : List Rel) (x : Rel) (P0 : Nat) (v : Value) (W5 w6 : World) (hown : w6.ownsRow (W5.alloc (.cells x.cells.toArray 27)).heap.size 27 5 v l.length (l.flatMap Rel.cells)) (g : Grew (W5.alloc (.cells x.cells.toArray 27)) w6) (hP : P0 ≤ l.length) (hl : l.length ≤ 1000000) :
    Calls Tryz.prog 57 #[v, .int .i64 P0, .slice (some ⟨W5.heap.size, 0, none⟩) 1 1] w6 (RetOwn 5 ((l.take P0 ++ [x] ++ l.drop P0).flatMap Rel.cells) W5) :=
  (insertR _ l x P0 W5.heap.size v _ hown g hP hl ((g.block _ (by simp)).trans (heap_alloc_last W5 _)) (fun e => by have := (hown.lt _ e.symm).1; simp at this; omega)).mono fun _ _ ⟨v', he, hr, hg, hfr⟩ => ⟨v', he, hr, ((Grew.refl W5).alloc _).trans hg, hfr.le (by simp)⟩
set_option maxHeartbeats 8000000 in
set_option maxRecDepth 100000 in
theorem rAdd (a : List Auth) (l : List Rel) (x : Rel) (av lv : Value) (w : World) (hE : Env w) (ha : SlAu w av a) (hf : FewAu a) (hl : SlR w lv l) (hll : l.length ≤ 1000000) :
    Calls Tryz.prog 19 #[av, lv, x.agg] w (RetRel (addR a l x) w) := by
  have kA := fun W (hW : Grew w W) => rAsks a l av lv W (hE.mono hW) (ha.mono hW) hf (hl.mono hW)
  have kL := fun W (hW : Grew w W) => rAlone a x av W (ha.mono hW) hf
  have kM := fun W B (hW : Grew w W) (hB : BoxR W B x) => containsFuncR l (meetsR x) _ #[.pointer (some ⟨B, 0, none⟩)] enters_meets lv W (hl.mono hW) (fun W' y hW' _ => rMeets x y B W' (hB.mono hW'))
  have kF : asksF a l = 0 → ∀ W, Grew w W → _ := fun h W (hW : Grew w W) => rFind l x lv W (hl.mono hW) hll (asks_right.1 h).2.2.2.1
  have hP := place_le l x
  have kC := fun W (hW : Grew w W) => cloneR l lv W (hl.mono hW) (by omega)
  have hbox := BoxR.new w x 27
  unfold addR insR
  show Calls Tryz.prog 19 #[av, lv, x.agg] w (RetRel (if asksF a l ≠ 0 then ([], asksF a l) else if relAlone a x ≠ 0 then ([], relAlone a x) else if l.any (meetsR x) = true then ([], 6) else if 256 ≤ l.length then ([], 8) else (l.take (placeR l x) ++ [x] ++ l.drop (placeR l x), 0)) w)
  change asksF a l = 0 → ∀ W, Grew w W → Calls Tryz.prog 56 #[lv, x.agg] W fun e w' => e = .returned (.tuple #[.int .i64 (placeR l x), .bool (hitB (fun y => decide (orderR y x = 0)) l (placeR l x))]) ∧ Grew W w' at kF
  generalize asksF a l = q0 at kA kF ⊢
  generalize relAlone a x = q1 at kL ⊢
  generalize l.any (meetsR x) = q2 at kM ⊢
  generalize hitB (fun y => decide (orderR y x = 0)) l (placeR l x) = hb at kF
  generalize placeR l x = P0 at kF hP ⊢
  have kIA := fun v W5 w6 h g => insA l x P0 v W5 w6 h g hP hll
  have kIB := fun v W5 w6 h g => insB l x P0 v W5 w6 h g hP hll
  have KA := Lib.hid kA
  have KM := Lib.hid kM
  have KC := Lib.hid kC
  unfold Rel.cells at hbox kIA kIB
  generalize hRes : (l.take P0 ++ [x] ++ l.drop P0) = RES at kIA kIB ⊢
  clear hRes
  unfold Rel.agg at kL kF ⊢
  obtain ⟨xu, xr, xa, xf, xn⟩ := x
  dsimp only at kL kF hbox kIA kIB ⊢
  have KL := Lib.hid kL
  have KF := Lib.hid kF
  have KIA := Lib.hid kIA
  have KIB := Lib.hid kIB
  have HB := Lib.hid hbox
  obtain ⟨A1, c1, rfl, -, -, -⟩ := hl.open_
  clear kA kL kM kF kC kIA kIB hbox hE ha hf hl
  by_cases h0 : q0 = 0
  case neg =>
    have hz : (q0 != 0) = true := by simpa using h0
    rw [if_pos h0]
    clear h0
    go_enter Tryz.func19, Tryz.ntmps19
    go_wp2_with fail
    refine (KA.out _ ((Grew.refl w).alloc _)).mono ?_
    rintro e w1 ⟨rfl, g1⟩
    dsimp only
    go_wp2
    go_ret2
    exact ⟨_, rfl, SlR.nil _, ((Grew.refl w).alloc _).trans g1, Fresh.nil _ _ _⟩
  subst h0
  simp only [ne_eq, not_true_eq_false, if_false]
  by_cases h1 : q1 = 0
  case neg =>
    have hz : (q1 != 0) = true := by simpa using h1
    rw [if_pos h1]
    clear h1
    go_enter Tryz.func19, Tryz.ntmps19
    go_wp2_with fail
    refine (KA.out _ ((Grew.refl w).alloc _)).mono ?_
    rintro e w1 ⟨rfl, g1⟩
    obtain ⟨b0, b1, b2, b3, b4⟩ := HB.out.mono g1
    have G1 := Lib.hid (((Grew.refl w).alloc _).trans g1)
    clear g1
    dsimp only
    dsimp only at b0 b1 b2 b3 b4
    go_wp2_with fail
    refine (KL.out _ G1.out).mono ?_
    rintro e w2 ⟨rfl, g2⟩
    dsimp only
    go_wp2
    go_ret2
    exact ⟨_, rfl, SlR.nil _, G1.out.trans g2, Fresh.nil _ _ _⟩
  subst h1
  simp only [not_true_eq_false, if_false]
  cases q2
  case true =>
    simp only [if_true]
    go_enter Tryz.func19, Tryz.ntmps19
    go_wp2_with fail
    refine (KA.out _ ((Grew.refl w).alloc _)).mono ?_
    rintro e w1 ⟨rfl, g1⟩
    obtain ⟨b0, b1, b2, b3, b4⟩ := HB.out.mono g1
    have HB1 := Lib.hid (HB.out.mono g1)
    have G1 := Lib.hid (((Grew.refl w).alloc _).trans g1)
    clear g1
    dsimp only
    dsimp only at b0 b1 b2 b3 b4
    go_wp2_with fail
    refine (KL.out _ G1.out).mono ?_
    rintro e w2 ⟨rfl, g2⟩
    have HB2 := Lib.hid (HB1.out.mono g2)
    have G2 := Lib.hid (G1.out.trans g2)
    clear g2
    dsimp only
    go_wp2_with fail
    refine (KM.out _ _ G2.out HB2.out).mono ?_
    rintro e w3 ⟨rfl, g3⟩
    dsimp only
    go_wp2
    go_ret2
    exact ⟨_, rfl, SlR.nil _, G2.out.trans g3, Fresh.nil _ _ _⟩
  simp only [Bool.false_eq_true, if_false]
  by_cases h3 : 256 ≤ l.length
  · rw [if_pos h3]
    have h3z : decide ((256 : Int) ≤ (l.length : Int)) = true := by simp; omega
    clear h3
    go_enter Tryz.func19, Tryz.ntmps19
    go_wp2_with fail
    refine (KA.out _ ((Grew.refl w).alloc _)).mono ?_
    rintro e w1 ⟨rfl, g1⟩
    obtain ⟨b0, b1, b2, b3, b4⟩ := HB.out.mono g1
    have HB1 := Lib.hid (HB.out.mono g1)
    have G1 := Lib.hid (((Grew.refl w).alloc _).trans g1)
    clear g1
    dsimp only
    dsimp only at b0 b1 b2 b3 b4
    go_wp2_with fail
    refine (KL.out _ G1.out).mono ?_
    rintro e w2 ⟨rfl, g2⟩
    have HB2 := Lib.hid (HB1.out.mono g2)
    have G2 := Lib.hid (G1.out.trans g2)
    clear g2
    dsimp only
    go_wp2_with fail
    refine (KM.out _ _ G2.out HB2.out).mono ?_
    rintro e w3 ⟨rfl, g3⟩
    dsimp only
    go_wp2
    go_ret2
    exact ⟨_, rfl, SlR.nil _, G2.out.trans g3, Fresh.nil _ _ _⟩
  · rw [if_neg h3]
    have h3z : decide ((256 : Int) ≤ (l.length : Int)) = false := by simp; omega
    have h3z' : ¬ (256 : Int) ≤ (l.length : Int) := by omega
    clear h3
    go_enter Tryz.func19, Tryz.ntmps19
    go_wp2_with fail
    refine (KA.out _ ((Grew.refl w).alloc _)).mono ?_
    rintro e w1 ⟨rfl, g1⟩
    obtain ⟨b0, b1, b2, b3, b4⟩ := HB.out.mono g1
    have HB1 := Lib.hid (HB.out.mono g1)
    have G1 := Lib.hid (((Grew.refl w).alloc _).trans g1)
    clear g1
    dsimp only
    dsimp only at b0 b1 b2 b3 b4
    go_wp2_with fail
    refine (KL.out _ G1.out).mono ?_
    rintro e w2 ⟨rfl, g2⟩
    have HB2 := Lib.hid (HB1.out.mono g2)
    have G2 := Lib.hid (G1.out.trans g2)
    clear g2 b0 b1 b2 b3 b4
    dsimp only
    go_wp2_with fail
    refine (KM.out _ _ G2.out HB2.out).mono ?_
    rintro e w3 ⟨rfl, g3⟩
    obtain ⟨b0, b1, b2, b3, b4⟩ := HB2.out.mono g3
    have HB3 := Lib.hid (HB2.out.mono g3)
    have G3 := Lib.hid (G2.out.trans g3)
    clear g3
    dsimp only
    dsimp only at b0 b1 b2 b3 b4
    go_wp2_with fail
    refine (KF.out (by first | rfl | trivial) _ G3.out).mono ?_
    rintro e w4 ⟨rfl, g4⟩
    have HB4 := Lib.hid (HB3.out.mono g4)
    have HG4 := Lib.hid (G3.out.trans g4)
    clear g4 b0 b1 b2 b3 b4
    obtain ⟨b0, b1, b2, b3, b4⟩ := HB4.out
    dsimp only
    dsimp only at b0 b1 b2 b3 b4
    go_wp2
    have hne4 : w.heap.size ≠ w4.heap.size := by have h : w.heap.size < w4.heap.size := World.block_lt_of_cell? w4 _ b0; omega
    go_region_held3 (fun W => W.cell? ⟨w.heap.size, 0, none⟩ = some (.int .i64 xu) ∧ W.cell? ⟨w.heap.size, 1, none⟩ = some (.int .i64 xr) ∧ W.cell? ⟨w.heap.size, 2, none⟩ = some (.int .i64 xa) ∧ W.cell? ⟨w.heap.size, 3, none⟩ = some (.int .i64 xf) ∧ W.cell? ⟨w.heap.size, 4, none⟩ = some (.int .i64 xn) ∧ Grew w4 W) (refine heldBox w4 _ _ _ _ _ _ _ b0 b1 b2 b3 b4 (by repeat (first | exact Grew.refl w4 | exact GG7.out | exact GG6.out | refine Grew.drew ?_ | refine Grew.alloc ?_ _))) (first | (go_at_call 15; refine (KC.out _ (by repeat (first | exact HG4.out | refine Grew.drew ?_ | refine Grew.alloc ?_ _))).mono ?_; rintro e w6 ⟨v6, rfl, ho6, g6⟩; have GG6 := Lib.hid (show Grew w4 w6 from Grew.trans (by repeat (first | exact Grew.refl w4 | refine Grew.drew ?_ | refine Grew.alloc ?_ _)) g6); have HO6 := Lib.hid ho6; have HG6 := Lib.hid g6; clear ho6 g6) | (go_at_call 57; ((with_reducible refine (KIA.out _ _ _ HO6.out HG6.out).mono ?_); rintro e w7 ⟨v7, rfl, hs7, g7, f7⟩); have FR7 := Lib.hid (Fresh.le f7 HG4.out.size); have HS7 := Lib.hid hs7; have GG7 := Lib.hid (show Grew w4 w7 from (Grew.refl w4).drew.trans g7); clear hs7 g7 f7) | (go_at_call 57; (refine (KIB.out _ w4.drew _ HO6.out HG6.out).mono ?_; rintro e w7 ⟨v7, rfl, hs7, g7, f7⟩); have FR7 := Lib.hid (Fresh.le f7 HG4.out.size); have HS7 := Lib.hid hs7; have GG7 := Lib.hid (show Grew w4 w7 from (Grew.refl w4).drew.trans g7); clear hs7 g7 f7))
    all_goals go_wp2
    all_goals go_ret2
    all_goals exact ⟨_, rfl, HS7.out, HG4.out.trans GG7.out, FR7.out⟩
end Go.Proofs.YtfghbendiofbeaaGreatDoor
