/- Lemmas on what the functions of the program and of the library compute: RB2, RB3, App4, RC1. The conditions stand at each. -/
import Derived.Test.YtfghbendiofbeaaGreatDoorQ28
import Derived.Test.YtfghbendiofbeaaGreatDoorQ10
import Derived.Test.YtfghbendiofbeaaGreatDoorQ25
import Derived.Test.YtfghbendiofbeaaGreatDoorQ2
/- The reference's order of relations, walked. No condition. -/
namespace Go.Proofs.YtfghbendiofbeaaGreatDoor
open Go.RowKit

def lessF : List Int → List Int → Bool
  | x :: p, y :: q => if x = y then lessF p q else decide (x < y)
  | _, _ => false
theorem lessF_hit : ∀ (p q : List Int) (k : Nat) (hp : k < p.length) (hq : k < q.length), (∀ j (h : j < p.length) (h' : j < q.length), j < k → p[j] = q[j]) → p[k] ≠ q[k] → lessF p q = decide (p[k] < q[k])
  | [], _, _, hp, _, _, _ => absurd hp (Nat.not_lt_zero _)
  | _ :: _, [], _, _, hq, _, _ => absurd hq (Nat.not_lt_zero _)
  | x :: p, y :: q, 0, _, _, _, hn => by simp only [List.getElem_cons_zero] at hn ⊢; rw [lessF, if_neg hn]
  | x :: p, y :: q, k + 1, hp, hq, h, hn => by
    have h0 : x = y := h 0 (by simp) (by simp) (by omega)
    simp only [List.getElem_cons_succ] at hn ⊢
    rw [lessF, if_pos h0]
    exact lessF_hit p q k _ _ (fun j hj hj' hjk => h (j + 1) (by simpa using hj) (by simpa using hj') (by omega)) hn
theorem lessF_miss : ∀ (p q : List Int), p.length = q.length → (∀ j (h : j < p.length) (h' : j < q.length), p[j] = q[j]) → lessF p q = false
  | [], [], _, _ => rfl
  | [], _ :: _, hl, _ => by simp at hl
  | _ :: _, [], hl, _ => by simp at hl
  | x :: p, y :: q, hl, h => by
    have h0 : x = y := h 0 (by simp) (by simp)
    rw [lessF, if_pos h0]
    exact lessF_miss p q (by simpa using hl) (fun j hj hj' => h (j + 1) (by simpa using hj) (by simpa using hj'))
theorem size_of_alloc (w : World) (o : Obj) : (w.alloc o).heap.size = w.heap.size + 1 := by simp
theorem held8 (w1 W : World) {p0 p1 p2 p3 q0 q1 q2 q3 : Addr} {x0 x1 x2 x3 y0 y1 y2 y3 : Value} (a0 : w1.cell? p0 = some x0) (a1 : w1.cell? p1 = some x1) (a2 : w1.cell? p2 = some x2) (a3 : w1.cell? p3 = some x3) (c0 : w1.cell? q0 = some y0) (c1 : w1.cell? q1 = some y1) (c2 : w1.cell? q2 = some y2) (c3 : w1.cell? q3 = some y3) (g : Grew w1 W) :
    W.cell? p0 = some x0 ∧ W.cell? p1 = some x1 ∧ W.cell? p2 = some x2 ∧ W.cell? p3 = some x3 ∧ W.cell? q0 = some y0 ∧ W.cell? q1 = some y1 ∧ W.cell? q2 = some y2 ∧ W.cell? q3 = some y3 := ⟨keep_cell g a0, keep_cell g a1, keep_cell g a2, keep_cell g a3, keep_cell g c0, keep_cell g c1, keep_cell g c2, keep_cell g c3⟩
def keyR (x : Rel) : List Int := [x.unit, x.role, x.auth, x.fr]
theorem less_order (x y : Rel) : lessF (keyR x) (keyR y) = decide (orderR x y < 0) := by
  rw [Bool.eq_iff_iff, decide_eq_true_eq, orderR_lt]
  unfold keyR ltR
  simp only [lessF]
  by_cases h1 : x.unit = y.unit <;> by_cases h2 : x.role = y.role <;> by_cases h3 : x.auth = y.auth <;> by_cases h4 : x.fr = y.fr <;> simp [h1, h2, h3, h4]
theorem slI_cell {W W' : World} {b n c : Nat} {l : List Int} (h : SlI W (.slice (some ⟨b, 0, none⟩) n c) l) (g : Grew W W') (k : Nat) (hk : k < l.length) : W'.cell? ⟨b, k, none⟩ = some (.int .i64 l[k]) := by
  obtain ⟨A, d, hv, _, _, hr⟩ := h.open_
  obtain ⟨rfl, rfl, rfl⟩ := Value.slice.inj hv
  obtain ⟨b', off, hA, _, hc⟩ := hr (by omega)
  obtain ⟨rfl, rfl⟩ : b' = b ∧ off = 0 := by cases hA; exact ⟨rfl, rfl⟩
  have := hc W' g k hk
  rw [Nat.zero_add] at this
  exact this
set_option maxHeartbeats 8000000 in
set_option maxRecDepth 100000 in
theorem refLess (x y : Rel) (w : World) : Calls Tryz.prog 46 #[x.agg, y.agg] w fun e w' => e = .returned (.bool (decide (orderR x y < 0))) ∧ Grew w w' := by
  rw [← less_order]
  have hx0 := fun W => Rd.fresh W 3 1 4 [.int .i64 x.unit, .int .i64 x.role, .int .i64 x.auth, .int .i64 x.fr] rfl (by decide)
  have hy0 := fun W => Rd.fresh W 3 1 4 [.int .i64 y.unit, .int .i64 y.role, .int .i64 y.auth, .int .i64 y.fr] rfl (by decide)
  have hx1 : ∀ W : World, SlI (W.alloc (.cells #[.int .i64 x.unit, .int .i64 x.role, .int .i64 x.auth, .int .i64 x.fr] 3)) (.slice (some ⟨W.heap.size, 0, none⟩) 4 4) (keyR x) := fun W => hx0 W
  have hy1 : ∀ W : World, SlI (W.alloc (.cells #[.int .i64 y.unit, .int .i64 y.role, .int .i64 y.auth, .int .i64 y.fr] 3)) (.slice (some ⟨W.heap.size, 0, none⟩) 4 4) (keyR y) := fun W => hy0 W
  have hlx : (keyR x).length = 4 := rfl
  have hly : (keyR y).length = 4 := rfl
  generalize keyR x = p at hx1 hlx ⊢
  generalize keyR y = q at hy1 hly ⊢
  have H1 := Lib.hid (lessF_hit p q)
  have H2 := Lib.hid (lessF_miss p q (by omega))
  generalize lessF p q = R at H1 H2 ⊢
  have HX := Lib.hid hx1
  have HY := Lib.hid hy1
  have HLX := Lib.hid hlx
  have HLY := Lib.hid hly
  obtain ⟨xu, xr, xa, xf, xn⟩ := x
  obtain ⟨yu, yr, ya, yf, yn⟩ := y
  unfold Rel.agg
  dsimp only at HX HY ⊢
  clear hx0 hy0 hx1 hy1 hlx hly
  go_enter Tryz.func46, Tryz.ntmps46
  go_wp2
  have a0 := keep_cell ((Grew.refl (w.alloc (.cells #[.int .i64 xu, .int .i64 xr, .int .i64 xa, .int .i64 xf, .int .i64 xn] 27))).alloc (.cells #[.int .i64 yu, .int .i64 yr, .int .i64 ya, .int .i64 yf, .int .i64 yn] 27)) (new_cell (Grew.refl (w.alloc (.cells #[.int .i64 xu, .int .i64 xr, .int .i64 xa, .int .i64 xf, .int .i64 xn] 27))) 0 _ rfl)
  have a1 := keep_cell ((Grew.refl (w.alloc (.cells #[.int .i64 xu, .int .i64 xr, .int .i64 xa, .int .i64 xf, .int .i64 xn] 27))).alloc (.cells #[.int .i64 yu, .int .i64 yr, .int .i64 ya, .int .i64 yf, .int .i64 yn] 27)) (new_cell (Grew.refl (w.alloc (.cells #[.int .i64 xu, .int .i64 xr, .int .i64 xa, .int .i64 xf, .int .i64 xn] 27))) 1 _ rfl)
  have a2 := keep_cell ((Grew.refl (w.alloc (.cells #[.int .i64 xu, .int .i64 xr, .int .i64 xa, .int .i64 xf, .int .i64 xn] 27))).alloc (.cells #[.int .i64 yu, .int .i64 yr, .int .i64 ya, .int .i64 yf, .int .i64 yn] 27)) (new_cell (Grew.refl (w.alloc (.cells #[.int .i64 xu, .int .i64 xr, .int .i64 xa, .int .i64 xf, .int .i64 xn] 27))) 2 _ rfl)
  have a3 := keep_cell ((Grew.refl (w.alloc (.cells #[.int .i64 xu, .int .i64 xr, .int .i64 xa, .int .i64 xf, .int .i64 xn] 27))).alloc (.cells #[.int .i64 yu, .int .i64 yr, .int .i64 ya, .int .i64 yf, .int .i64 yn] 27)) (new_cell (Grew.refl (w.alloc (.cells #[.int .i64 xu, .int .i64 xr, .int .i64 xa, .int .i64 xf, .int .i64 xn] 27))) 3 _ rfl)
  have c0 := new_cell (Grew.refl ((w.alloc (.cells #[.int .i64 xu, .int .i64 xr, .int .i64 xa, .int .i64 xf, .int .i64 xn] 27)).alloc (.cells #[.int .i64 yu, .int .i64 yr, .int .i64 ya, .int .i64 yf, .int .i64 yn] 27))) 0 _ rfl
  have c1 := new_cell (Grew.refl ((w.alloc (.cells #[.int .i64 xu, .int .i64 xr, .int .i64 xa, .int .i64 xf, .int .i64 xn] 27)).alloc (.cells #[.int .i64 yu, .int .i64 yr, .int .i64 ya, .int .i64 yf, .int .i64 yn] 27))) 1 _ rfl
  have c2 := new_cell (Grew.refl ((w.alloc (.cells #[.int .i64 xu, .int .i64 xr, .int .i64 xa, .int .i64 xf, .int .i64 xn] 27)).alloc (.cells #[.int .i64 yu, .int .i64 yr, .int .i64 ya, .int .i64 yf, .int .i64 yn] 27))) 2 _ rfl
  have c3 := new_cell (Grew.refl ((w.alloc (.cells #[.int .i64 xu, .int .i64 xr, .int .i64 xa, .int .i64 xf, .int .i64 xn] 27)).alloc (.cells #[.int .i64 yu, .int .i64 yr, .int .i64 ya, .int .i64 yf, .int .i64 yn] 27))) 3 _ rfl
  simp only [size_of_alloc] at c0 c1 c2 c3
  have G0 := Lib.hid (((Grew.refl w).alloc (.cells #[.int .i64 xu, .int .i64 xr, .int .i64 xa, .int .i64 xf, .int .i64 xn] 27)).alloc (.cells #[.int .i64 yu, .int .i64 yr, .int .i64 ya, .int .i64 yf, .int .i64 yn] 27))
  generalize (w.alloc (.cells #[.int .i64 xu, .int .i64 xr, .int .i64 xa, .int .i64 xf, .int .i64 xn] 27)).alloc (.cells #[.int .i64 yu, .int .i64 yr, .int .i64 ya, .int .i64 yf, .int .i64 yn] 27) = W0 at a0 a1 a2 a3 c0 c1 c2 c3 G0 ⊢
  generalize w.heap.size + 1 = B2 at c0 c1 c2 c3 ⊢
  generalize w.heap.size = B1 at a0 a1 a2 a3 ⊢
  go_region_held3 (fun W => W.cell? ⟨B1, 0, none⟩ = some (.int .i64 xu) ∧ W.cell? ⟨B1, 1, none⟩ = some (.int .i64 xr) ∧ W.cell? ⟨B1, 2, none⟩ = some (.int .i64 xa) ∧ W.cell? ⟨B1, 3, none⟩ = some (.int .i64 xf) ∧ W.cell? ⟨B2, 0, none⟩ = some (.int .i64 yu) ∧ W.cell? ⟨B2, 1, none⟩ = some (.int .i64 yr) ∧ W.cell? ⟨B2, 2, none⟩ = some (.int .i64 ya) ∧ W.cell? ⟨B2, 3, none⟩ = some (.int .i64 yf)) (refine held8 W0 _ a0 a1 a2 a3 c0 c1 c2 c3 (by repeat (first | exact Grew.refl W0 | refine Grew.drew ?_ | refine Grew.alloc ?_ _))) (fail)
  all_goals go_wp2_with fail
  all_goals clear a0 a1 a2 a3 c0 c1 c2 c3
  · skip
    have sp := ((HX.out W0).mono ((Grew.refl _).alloc (.cells #[.int .i64 yu, .int .i64 yr, .int .i64 ya, .int .i64 yf] 3))).mono (Grew.refl _).drew
    have k2 := HY.out (W0.alloc (.cells #[.int .i64 xu, .int .i64 xr, .int .i64 xa, .int .i64 xf] 3))
    simp only [size_of_alloc] at k2
    have sq := k2.mono (Grew.refl _).drew
    clear k2
    have GZ := Lib.hid (((G0.out.alloc (.cells #[.int .i64 xu, .int .i64 xr, .int .i64 xa, .int .i64 xf] 3)).alloc (.cells #[.int .i64 yu, .int .i64 yr, .int .i64 ya, .int .i64 yf] 3)).drew)
    generalize ((W0.alloc (.cells #[.int .i64 xu, .int .i64 xr, .int .i64 xa, .int .i64 xf] 3)).alloc (.cells #[.int .i64 yu, .int .i64 yr, .int .i64 ya, .int .i64 yf] 3)).drew = WZ at sp sq GZ ⊢
    have SP := Lib.hid sp
    have SQ := Lib.hid sq
    clear sp sq HX HY
    generalize W0.heap.size + 1 = C2 at SP SQ ⊢
    generalize W0.heap.size = C1 at SP SQ ⊢
    go_loopg [7] 4 (fun gg s7 wr => ∃ k : Nat, k ≤ 4 ∧ 4 - k ≤ gg ∧ s7 = .int .i64 k ∧ Aside (Grew WZ wr) ∧ Aside (∀ j (h : j < p.length) (h' : j < q.length), j < k → p[j] = q[j]))
    case atStart => exact ⟨0, by omega, by omega, rfl, (show Aside _ from Grew.refl _), (show Aside _ from fun j h h' h2 => absurd h2 (Nat.not_lt_zero _))⟩
    case round =>
      obtain ⟨k, hk, hgk, rfl, BW, M⟩ := hrel
      by_cases hlt : k < 4
      · have hltz : (k : Int) < 4 := by omega
        have h0z : (0 : Int) ≤ (k : Int) := by omega
        have hkp : k < p.length := by rw [HLX.out]; exact hlt
        have hkq : k < q.length := by rw [HLY.out]; exact hlt
        have c1 := slI_cell SP.out BW.out k hkp
        have c2 := slI_cell SQ.out BW.out k hkq
        have HN : RowKit.Hid (p[k] = q[k] → ∀ j (h : j < p.length) (h' : j < q.length), j < k + 1 → p[j] = q[j]) := fun h j hj hj' h2 => by
          by_cases e : j = k
          · subst e; exact h
          · exact M.out j hj hj' (by omega)
        have HD := Lib.hid (H1.out k hkp hkq M.out)
        generalize p[k] = y at c1 HN HD
        generalize q[k] = z at c2 HN HD
        by_cases he : y = z
        · have he' : (y != z) = false := by simpa using he
          have Hy := Lib.hid (HN.out he)
          clear HN HD he M
          go_wp2
          go_quiet (fail)
          clear c1 c2
          go_wp2
          go_roundg (4 - (k + 1))
          case measure => omega
          case rel => exact ⟨k + 1, by omega, by omega, by go_num, (show Aside _ from BW.out.drewN _), (show Aside _ from Hy.out)⟩
        · have he' : (y != z) = true := by simpa using he
          have hR := HD.out he
          subst hR
          clear HN HD he M H1 H2
          go_wp2
          go_quiet (fail)
          go_wp2
          go_quiet (fail)
          clear c1 c2
          go_wp2
          go_ret
          exact ⟨rfl, GZ.out.trans ((BW.out.drewN _).drewN _)⟩
      · have hltz : ¬ (k : Int) < 4 := by omega
        have hR := H2.out (fun j h h' => M.out j h h' (by have := HLX.out; omega))
        subst hR
        clear H1 H2 M
        go_wp2
        go_ret
        exact ⟨rfl, GZ.out.trans BW.out⟩
  · skip
    have sq := ((HY.out W0).mono ((Grew.refl _).alloc (.cells #[.int .i64 xu, .int .i64 xr, .int .i64 xa, .int .i64 xf] 3))).mono (Grew.refl _).drew
    have k2 := HX.out (W0.alloc (.cells #[.int .i64 yu, .int .i64 yr, .int .i64 ya, .int .i64 yf] 3))
    simp only [size_of_alloc] at k2
    have sp := k2.mono (Grew.refl _).drew
    clear k2
    have GZ := Lib.hid (((G0.out.alloc (.cells #[.int .i64 yu, .int .i64 yr, .int .i64 ya, .int .i64 yf] 3)).alloc (.cells #[.int .i64 xu, .int .i64 xr, .int .i64 xa, .int .i64 xf] 3)).drew)
    generalize ((W0.alloc (.cells #[.int .i64 yu, .int .i64 yr, .int .i64 ya, .int .i64 yf] 3)).alloc (.cells #[.int .i64 xu, .int .i64 xr, .int .i64 xa, .int .i64 xf] 3)).drew = WZ at sp sq GZ ⊢
    have SP := Lib.hid sp
    have SQ := Lib.hid sq
    clear sp sq HX HY
    generalize W0.heap.size + 1 = C2 at SP SQ ⊢
    generalize W0.heap.size = C1 at SP SQ ⊢
    go_loopg [7] 4 (fun gg s7 wr => ∃ k : Nat, k ≤ 4 ∧ 4 - k ≤ gg ∧ s7 = .int .i64 k ∧ Aside (Grew WZ wr) ∧ Aside (∀ j (h : j < p.length) (h' : j < q.length), j < k → p[j] = q[j]))
    case atStart => exact ⟨0, by omega, by omega, rfl, (show Aside _ from Grew.refl _), (show Aside _ from fun j h h' h2 => absurd h2 (Nat.not_lt_zero _))⟩
    case round =>
      obtain ⟨k, hk, hgk, rfl, BW, M⟩ := hrel
      by_cases hlt : k < 4
      · have hltz : (k : Int) < 4 := by omega
        have h0z : (0 : Int) ≤ (k : Int) := by omega
        have hkp : k < p.length := by rw [HLX.out]; exact hlt
        have hkq : k < q.length := by rw [HLY.out]; exact hlt
        have c1 := slI_cell SP.out BW.out k hkp
        have c2 := slI_cell SQ.out BW.out k hkq
        have HN : RowKit.Hid (p[k] = q[k] → ∀ j (h : j < p.length) (h' : j < q.length), j < k + 1 → p[j] = q[j]) := fun h j hj hj' h2 => by
          by_cases e : j = k
          · subst e; exact h
          · exact M.out j hj hj' (by omega)
        have HD := Lib.hid (H1.out k hkp hkq M.out)
        generalize p[k] = y at c1 HN HD
        generalize q[k] = z at c2 HN HD
        by_cases he : y = z
        · have he' : (y != z) = false := by simpa using he
          have Hy := Lib.hid (HN.out he)
          clear HN HD he M
          go_wp2
          go_quiet (fail)
          clear c1 c2
          go_wp2
          go_roundg (4 - (k + 1))
          case measure => omega
          case rel => exact ⟨k + 1, by omega, by omega, by go_num, (show Aside _ from BW.out.drewN _), (show Aside _ from Hy.out)⟩
        · have he' : (y != z) = true := by simpa using he
          have hR := HD.out he
          subst hR
          clear HN HD he M H1 H2
          go_wp2
          go_quiet (fail)
          go_wp2
          go_quiet (fail)
          clear c1 c2
          go_wp2
          go_ret
          exact ⟨rfl, GZ.out.trans ((BW.out.drewN _).drewN _)⟩
      · have hltz : ¬ (k : Int) < 4 := by omega
        have hR := H2.out (fun j h h' => M.out j h h' (by have := HLX.out; omega))
        subst hR
        clear H1 H2 M
        go_wp2
        go_ret
        exact ⟨rfl, GZ.out.trans BW.out⟩
end Go.Proofs.YtfghbendiofbeaaGreatDoor

/- The reference's Check and Right of relations, and its small questions, walked. No condition. -/
namespace Go.Proofs.YtfghbendiofbeaaGreatDoor
open Go.RowKit

set_option maxHeartbeats 2000000 in
theorem refOn (fr un day : Int) (w : World) : Calls Tryz.prog 68 #[.agg #[.int .i64 fr, .int .i64 un], .int .i64 day] w fun e w' => e = .returned (.bool (inF fr un day)) ∧ Grew w w' := by
  unfold inF
  cases a1 : decide (fr ≤ day) <;> cases a2 : decide (day < un)
  all_goals
    go_enter Tryz.func68, Tryz.ntmps68
    go_wp2
    go_ret
    exact ⟨rfl, (Grew.refl w).alloc _⟩
theorem ranged_or (role day : Int) : rangedF role day = if (decide (role < 1) || (decide (4 < role) || (decide (day < 0) || decide (1048575 < day)))) then 2 else 0 := by
  unfold rangedF within
  by_cases h1 : 1 ≤ role <;> by_cases h2 : role ≤ 4 <;> by_cases h3 : 0 ≤ day <;> by_cases h4 : day ≤ 1048575 <;> simp [h1, h2, h3, h4] <;> omega
set_option maxHeartbeats 2000000 in
theorem refAsked (role day : Int) (w : World) : Calls Tryz.prog 62 #[.int .i64 role, .int .i64 day] w fun e w' => e = .returned (.int .i64 (rangedF role day)) ∧ w = w' := by
  rw [ranged_or]
  cases a1 : decide (role < 1) <;> cases a2 : decide (4 < role) <;> cases a3 : decide (day < 0) <;> cases a4 : decide (1048575 < day)
  all_goals
    go_enter Tryz.func62, Tryz.ntmps62
    go_wp2
    go_ret
    exact ⟨rfl, rfl⟩
set_option maxRecDepth 100000 in
set_option maxHeartbeats 8000000 in
theorem refCheck26 (a : List Auth) (l : List Rel) (av lv : Value) (w : World) (ha : SlAu w av a) (hl : SlR w lv l) :
    Calls Tryz.prog 16 #[av, lv] w fun e w' => e = .returned (.tuple #[.int .i64 (relCheck a l).1, .int .i64 (relCheck a l).2]) ∧ Grew w w' := by
  have kR := refRight23 a av w ha
  have HA := Lib.hid ha
  obtain ⟨A, c, rfl, hlc, hc, hr⟩ := hl.open_
  unfold maxLen at hc
  have HR := Lib.hid hr
  clear hr hl ha
  by_cases h0 : AuthRight a
  case neg =>
    have hC : relCheck a l = (-1, 1) := by simp [relCheck, h0]
    rw [hC]
    rw [decide_eq_false h0] at kR
    have KR := Lib.hid kR
    clear kR h0 hC
    go_enter Tryz.func16, Tryz.ntmps16
    go_wp2_with (first | (go_at_call 44; refine KR.out.mono ?_; rintro e w1 ⟨rfl, hg⟩))
    go_ret2
    exact ⟨rfl, hg⟩
  rw [decide_eq_true h0] at kR
  have KR := Lib.hid kR
  by_cases h1 : 256 < l.length
  · have hC : relCheck a l = (-1, 8) := by simp [relCheck, h0, h1]
    rw [hC]
    have h1' : (256 : Int) < (l.length : Int) := by omega
    clear kR h0 hC
    go_enter Tryz.func16, Tryz.ntmps16
    go_wp2_with (first | (go_at_call 44; refine KR.out.mono ?_; rintro e w1 ⟨rfl, hg⟩))
    go_ret2
    exact ⟨rfl, hg⟩
  have h1' : ¬ (256 : Int) < (l.length : Int) := by omega
  have hC : relCheck a l = findBad (relFaultAt a l) l.length 0 := by simp [relCheck, h0, h1]
  rw [hC]
  generalize hF : findBad (relFaultAt a l) l.length 0 = R
  have HFB := Lib.hid hF
  clear kR h0 hC hF h1
  go_enter Tryz.func16, Tryz.ntmps16
  go_wp2_with (first | (go_at_call 44; refine KR.out.mono ?_; rintro e w1 ⟨rfl, hg⟩))
  go_loopg [6] l.length (fun gg s6 wr => ∃ kk : Nat, kk ≤ l.length ∧ l.length - kk ≤ gg ∧ s6 = .int .i64 kk ∧ Aside (Grew w wr) ∧ Aside (∀ i, i < kk → relFaultAt a l i = 0))
  case atStart => exact ⟨0, Nat.zero_le _, by omega, rfl, hg, fun i h => absurd h (Nat.not_lt_zero _)⟩
  case round =>
    obtain ⟨kk, hkk, hgk, rfl, BW, M⟩ := hrel
    clear hg
    by_cases hlt : kk < l.length
    case neg =>
      have hltz : ¬ (kk : Int) < (l.length : Int) := by omega
      have Hm := Lib.hid (HFB.out.symm.trans (findBad_miss _ _ (fun j hj => M.out j (by omega))))
      go_wp2
      go_ret2
      refine ⟨?_, BW.out⟩
      rw [Hm.out]
      rfl
    have hltz : (kk : Int) < (l.length : Int) := by omega
    have h0z : (0 : Int) ≤ (kk : Int) := by omega
    obtain ⟨b, off, rfl, hb, hcell⟩ := HR.out (by omega)
    have HCELL := Lib.hid hcell
    obtain ⟨c0, c1, c2, c3, c4⟩ := hcell wr BW.out kk hlt
    have hfa := relFaultAt_in a l kk hlt
    have hit : relFaultAt a l kk ≠ 0 → R = ((kk : Int), relFaultAt a l kk) := fun h => HFB.out.symm.trans (findBad_hit _ _ kk hlt M.out h)
    rw [hfa] at hit
    have HFA := Lib.hid hfa
    clear hcell hfa
    generalize hy : l[kk] = y at c0 c1 c2 c3 c4 hit HFA
    clear hy
    have kA := fun W (hW : Grew w W) => refOwn26 a y av W (HA.out.mono hW)
    have hFd : ∀ p, relFault a p y = if relAlone a y ≠ 0 then relAlone a y else match p with
      | none => 0
      | some u => if 0 ≤ orderR u y then 5 else if sameR u y = true ∧ y.fr < u.un then 6 else 0 := fun p => rfl
    generalize relAlone a y = al at kA hFd
    have HFD := Lib.hid hFd
    have HIT := Lib.hid hit
    have HY := Lib.hid (refLess · y)
    have HZ := Lib.hid (refSame26 · y)
    unfold Rel.agg at kA
    have KA := Lib.hid kA
    clear kA hFd hit
    obtain ⟨yu, yr, ya, yf, yn⟩ := y
    dsimp only at c0 c1 c2 c3 c4 KA
    go_wp2_with fail
    refine (KA.out _ BW.out).mono ?_
    rintro e w1 ⟨rfl, g1⟩
    have HGW := Lib.hid (BW.out.trans g1)
    have k0 := Gr.cell (keep_cell g1 c0)
    have k1 := Gr.cell (keep_cell g1 c1)
    have k2 := Gr.cell (keep_cell g1 c2)
    have k3 := Gr.cell (keep_cell g1 c3)
    have k4 := Gr.cell (keep_cell g1 c4)
    clear g1 c0 c1 c2 c3 c4
    dsimp only
    by_cases hal : al = 0
    case neg =>
      have hal' : (al != 0) = true := by simpa using hal
      have hfv : relFault a (prevR l kk) ⟨yu, yr, ya, yf, yn⟩ = al := by rw [HFD.out, if_pos hal]
      have Hr := Lib.hid (HIT.out (by rw [hfv]; exact hal))
      have Hf := Lib.hid hfv
      clear hal hfv k0 k1 k2 k3 k4
      go_wp2
      go_ret2
      refine ⟨?_, HGW.out⟩
      rw [Hr.out, Hf.out]
      rfl
    subst hal
    rcases Nat.eq_zero_or_pos kk with hk0 | hkpos
    · subst hk0
      have hfz : relFaultAt a l 0 = 0 := by rw [HFA.out, HFD.out]; simp [prevR]
      have Hf := Lib.hid hfz
      clear hfz HIT k0 k1 k2 k3 k4
      go_wp2
      go_quiet (fail)
      go_wp2
      go_quiet (fail)
      go_wp2
      go_roundg (l.length - 1)
      case measure => omega
      case rel =>
        refine ⟨1, by omega, by omega, by go_num, (show Aside _ from HGW.out.drewN _), (show Aside _ from fun i hi => ?_)⟩
        obtain rfl : i = 0 := by omega
        exact Hf.out
    · have hp1 : kk - 1 < l.length := by omega
      have hpv : prevR l kk = some l[kk - 1] := by rw [prevR, if_neg (by omega), List.getElem?_eq_getElem hp1]
      obtain ⟨d0, d1, d2, d3, d4⟩ := HCELL.out w1 HGW.out (kk - 1) hp1
      have kO := HY.out l[kk - 1]
      have kS := HZ.out l[kk - 1]
      have hfd : relFaultAt a l kk = if 0 ≤ orderR l[kk - 1] ⟨yu, yr, ya, yf, yn⟩ then 5 else if sameR l[kk - 1] ⟨yu, yr, ya, yf, yn⟩ = true ∧ yf < l[kk - 1].un then 6 else 0 := by
        rw [HFA.out, hpv, HFD.out]
        simp
      have hit2 := HIT.out
      rw [← HFA.out] at hit2
      unfold Rel.agg at kO kS
      clear hpv
      generalize l[kk - 1] = z at d0 d1 d2 d3 d4 kO kS hfd
      obtain ⟨zu, zr, za, zf, zn⟩ := z
      dsimp only at d0 d1 d2 d3 d4 kO kS hfd
      have f0 := Gr.cell d0
      have f1 := Gr.cell d1
      have f2 := Gr.cell d2
      have f3 := Gr.cell d3
      have f4 := Gr.cell d4
      clear d0 d1 d2 d3 d4
      have hkz : (0 : Int) < (kk : Int) := by omega
      have hki : (0 : Int) ≤ (kk : Int) - 1 := by omega
      have hki2 : (kk : Int) - 1 < (l.length : Int) := by omega
      have hki3 : (1 : Int) ≤ (kk : Int) := by omega
      have hkt : ((kk : Int) - 1).toNat = kk - 1 := by omega
      have HMK : RowKit.Hid (relFaultAt a l kk = 0 → ∀ i, i < kk + 1 → relFaultAt a l i = 0) := fun h i hi => by
        by_cases e : i = kk
        · subst e; exact h
        · exact M.out i (by omega)
      generalize relFaultAt a l kk = fk at hfd hit2 HMK
      generalize orderR ⟨zu, zr, za, zf, zn⟩ ⟨yu, yr, ya, yf, yn⟩ = oo at kO hfd
      generalize sameR ⟨zu, zr, za, zf, zn⟩ ⟨yu, yr, ya, yf, yn⟩ = ss at kS hfd
      have hoo : decide (oo < 0) = !decide (0 ≤ oo) := by rw [Bool.eq_iff_iff]; simp
      rw [hoo] at kO
      have KO := Lib.hid kO
      have KS := Lib.hid kS
      have HFK := Lib.hid hfd
      have HT2 := Lib.hid hit2
      clear kO kS hfd hit2 HFA HFD HIT HY HZ KA M hoo
      have hwr : IntKind.i64.wrap ((kk : Int) - 1) = (kk : Int) - 1 := IntWalk.i64_in _ (by omega)
      by_cases a6 : 0 ≤ oo
      · have hfk : fk = 5 := by rw [HFK.out]; simp [a6]
        have Hr := Lib.hid (HT2.out (by rw [hfk]; decide))
        have Hf := Lib.hid hfk
        have KO' := Lib.hid (show ∀ W, _ from fun W => by have := KO.out W; rw [decide_eq_true a6] at this; exact this)
        clear hfk KO a6
        go_wp2_with fail
        refine region_gr w1 (by kernel_rfl) (by kernel_rfl) (Grew.refl _) ?_
        repeat (first | go_big_quiet_step ((go_at_call 46; exact Gr.calls _ (KO'.out _))) | quiet_step ((go_at_call 46; exact Gr.calls _ (KO'.out _))))
        refine wpQuiet_nil ?_
        intro _ hw'
        obtain ⟨wi, rfl⟩ := hw'
        have HWI := Lib.hid wi.g
        clear hwr f0 f1 f2 f3 f4 k0 k1 k2 k3 k4
        go_wp2
        go_ret2
        refine ⟨?_, HGW.out.trans HWI.out⟩
        rw [Hr.out, Hf.out]
        rfl
      · have hfk : fk = if ss = true ∧ yf < zn then 6 else 0 := by rw [HFK.out]; simp [a6]
        have HFK2 := Lib.hid hfk
        have KO' := Lib.hid (show ∀ W, _ from fun W => by have := KO.out W; rw [decide_eq_false a6] at this; exact this)
        clear hfk a6 HFK KO
        go_wp2_with fail
        refine region_gr w1 (by kernel_rfl) (by kernel_rfl) (Grew.refl _) ?_
        repeat (first | go_big_quiet_step ((go_at_call 46; exact Gr.calls _ (KO'.out _))) | quiet_step ((go_at_call 46; exact Gr.calls _ (KO'.out _))))
        refine wpQuiet_nil ?_
        intro _ hw'
        obtain ⟨wi, rfl⟩ := hw'
        have HWI := Lib.hid wi.g
        have hss : (ss = true ∧ yf < zn) ∨ ss = false ∨ (ss = true ∧ ¬ yf < zn) := by cases ss <;> by_cases r : yf < zn <;> simp [r]
        rcases hss with ⟨rfl, r⟩ | rfl | ⟨rfl, r⟩
        · have hfk : fk = 6 := by rw [HFK2.out]; simp [r]
          have Hr := Lib.hid (HT2.out (by rw [hfk]; decide))
          have Hf := Lib.hid hfk
          clear hfk
          go_wp2_with fail
          refine region_gr w1 (by kernel_rfl) (by kernel_rfl) HWI.out ?_
          repeat (first | go_big_quiet_step ((go_at_call 47; exact Gr.calls _ (KS.out _))) | quiet_step ((go_at_call 47; exact Gr.calls _ (KS.out _))))
          refine wpQuiet_nil ?_
          intro _ hw'
          obtain ⟨wj, rfl⟩ := hw'
          have HWJ := Lib.hid wj.g
          clear hwr f0 f1 f2 f3 f4 k0 k1 k2 k3 k4
          go_wp2
          go_ret2
          refine ⟨?_, HGW.out.trans HWJ.out⟩
          rw [Hr.out, Hf.out]
          rfl
        · have hfk : fk = 0 := by rw [HFK2.out]; simp
          have Hf := Lib.hid (HMK.out hfk)
          clear hfk
          go_wp2_with fail
          refine region_gr w1 (by kernel_rfl) (by kernel_rfl) HWI.out ?_
          repeat (first | go_big_quiet_step ((go_at_call 47; exact Gr.calls _ (KS.out _))) | quiet_step ((go_at_call 47; exact Gr.calls _ (KS.out _))))
          refine wpQuiet_nil ?_
          intro _ hw'
          obtain ⟨wj, rfl⟩ := hw'
          have HWJ := Lib.hid wj.g
          clear hwr f0 f1 f2 f3 f4 k0 k1 k2 k3 k4
          go_wp2
          go_roundg (l.length - (kk + 1))
          case measure => omega
          case rel => exact ⟨kk + 1, by omega, by omega, by go_num, (show Aside _ from HGW.out.trans HWJ.out), (show Aside _ from Hf.out)⟩
        · have r' : decide (yf < zn) = false := by simpa using r
          have hfk : fk = 0 := by rw [HFK2.out]; simp [r]
          have Hf := Lib.hid (HMK.out hfk)
          clear hfk r
          go_wp2_with fail
          refine region_gr w1 (by kernel_rfl) (by kernel_rfl) HWI.out ?_
          repeat (first | go_big_quiet_step ((go_at_call 47; exact Gr.calls _ (KS.out _))) | quiet_step ((go_at_call 47; exact Gr.calls _ (KS.out _))))
          refine wpQuiet_nil ?_
          intro _ hw'
          obtain ⟨wj, rfl⟩ := hw'
          have HWJ := Lib.hid wj.g
          clear hwr f0 f1 f2 f3 f4 k0 k1 k2 k3 k4
          go_wp2
          go_roundg (l.length - (kk + 1))
          case measure => omega
          case rel => exact ⟨kk + 1, by omega, by omega, by go_num, (show Aside _ from HGW.out.trans HWJ.out), (show Aside _ from Hf.out)⟩
theorem asks_bool (a : List Auth) (l : List Rel) : decide (asksF a l = 0) = ((relCheck a l).2 == 0) := by
  unfold asksF
  by_cases h : (relCheck a l).2 = 0 <;> simp [h]
theorem refRight26 (a : List Auth) (l : List Rel) (av lv : Value) (w : World) (ha : SlAu w av a) (hl : SlR w lv l) : Calls Tryz.prog 58 #[av, lv] w fun e w' => e = .returned (.bool (decide (asksF a l = 0))) ∧ Grew w w' := by
  have kC := refCheck26 a l av lv w ha hl
  rw [asks_bool]
  generalize (relCheck a l).1 = n at kC ⊢
  generalize (relCheck a l).2 = m at kC ⊢
  have KC := Lib.hid kC
  clear kC ha hl
  go_enter Tryz.func58, Tryz.ntmps58
  go_wp2_with fail
  refine KC.out.mono ?_
  rintro e w1 ⟨rfl, g1⟩
  have HG := Lib.hid g1
  clear g1
  dsimp only
  go_wp2
  go_ret
  exact ⟨rfl, HG.out⟩
end Go.Proofs.YtfghbendiofbeaaGreatDoor

/- Parts of a slice, and an empty list that was just made as a row of the call's own. No condition but the sizes that a slice can have. -/
namespace Go.Proofs.YtfghbendiofbeaaGreatDoor
open Go.RowKit

/-- s[:k]. -/
theorem part_to {P : Program} {t e : TypeId} {i : TypeInfo} (ht : P.underlying t = some (.slice e)) (hi : P.info? e = some i) (A : Option Addr) (n c k : Nat) (hk : k ≤ n) (hn : n ≤ c) :
    ∀ W, (Instr.slice t (.slice A n c) none (some (.int .i64 (k : Int))) none).run P W = .ok (.slice A k c) W := by
  intro W
  have h0 : (0 : Int) ≤ (k : Int) := by omega
  have h1 : k ≤ c := by omega
  have h2 : (k : Int) ≤ (c : Int) := by omega
  have ha : A.map (fun a => a.add 0) = A := by cases A <;> simp [Addr.add]
  simp [Instr.slice, run_underlying ht, Instr.sliceBounds, run_sliceBound, h2, sizeOf, typeInfo, hi, ha]
def sufV (A : Option Addr) (n c k size : Nat) : Value := .slice (if c = k then A else A.map (·.add (k * size))) (n - k) (c - k)
/-- s[k:]. -/
theorem part_from {P : Program} {t e : TypeId} {i : TypeInfo} {size : Nat} (ht : P.underlying t = some (.slice e)) (hi : P.info? e = some i) (hsize : i.size = size) (A : Option Addr) (n c k : Nat) (hk : k ≤ n) :
    ∀ W, (Instr.slice t (.slice A n c) (some (.int .i64 (k : Int))) none none).run P W = .ok (sufV A n c k size) W := by
  intro W
  subst hsize
  have h0 : (0 : Int) ≤ (k : Int) := by omega
  have h2 : (k : Int) ≤ (n : Int) := by omega
  simp [Instr.slice, run_underlying ht, Instr.sliceBounds, run_sliceBound, h2, sizeOf, typeInfo, hi, sufV]
theorem preV_rd {W : World} {size n c k : Nat} {A : Option Addr} {cs : List Value} (h : Rd W size (.slice A n c) cs) (hk : k ≤ n) : Rd W size (.slice A k c) (cs.take (k * size)) := by
  obtain ⟨A', n', c', hv, hl, hn, hc, hr⟩ := h
  obtain ⟨rfl, rfl, rfl⟩ := Value.slice.inj hv
  have hm : k * size ≤ n * size := Nat.mul_le_mul_right _ hk
  refine ⟨A, k, c, rfl, by rw [List.length_take]; omega, by omega, hc, fun h0 => ?_⟩
  obtain ⟨b, off, hA, hb, hcell⟩ := hr (by omega)
  refine ⟨b, off, hA, hb, fun j u hu => ?_⟩
  rw [List.getElem?_take] at hu
  split at hu
  · exact hcell j u hu
  · cases hu
theorem sufV_rd {W : World} {size n c k : Nat} {A : Option Addr} {cs : List Value} (h : Rd W size (.slice A n c) cs) (hk : k ≤ n) : Rd W size (sufV A n c k size) (cs.drop (k * size)) := by
  obtain ⟨A', n', c', hv, hl, hn, hc, hr⟩ := h
  obtain ⟨rfl, rfl, rfl⟩ := Value.slice.inj hv
  have hm : k * size ≤ n * size := Nat.mul_le_mul_right _ hk
  refine ⟨_, n - k, c - k, rfl, by rw [List.length_drop, hl, Nat.sub_mul], by omega, by omega, fun h0 => ?_⟩
  obtain ⟨b, off, rfl, hb, hcell⟩ := hr (by omega)
  refine ⟨b, off + k * size, ?_, hb, fun j u hu => ?_⟩
  · rw [if_neg (by omega), Option.map_some, add_lit]
  · rw [List.getElem?_drop] at hu
    rw [Nat.add_assoc]
    exact hcell _ u hu
theorem own_lit {W : World} {base size : Nat} {e : TypeId} (H : Nat) (hH : W.heap.size = H) (hb : base ≤ H) : (W.alloc (.cells #[] e)).ownsRow base e size (.slice (some ⟨H, 0, none⟩) 0 0) 0 [] := by
  subst hH
  exact World.ownsRow_made W #[] 0 hb (Nat.zero_le _) (by simp)
theorem rd_lit {W : World} {size : Nat} {e : TypeId} (cs : List Value) (hl : cs.length = size) (H : Nat) (hH : W.heap.size = H) : Rd (W.alloc (.cells cs.toArray e)) size (.slice (some ⟨H, 0, none⟩) 1 1) cs := by
  subst hH
  exact Rd.fresh W e size 1 cs (by omega) (by unfold maxLen; omega)
theorem rd_block {W : World} {size : Nat} {cs : List Value} {H n : Nat} (hl : cs.length = n * size) (hn : n ≤ maxLen) (hb : H < W.heap.size) (h : ∀ j u, cs[j]? = some u → W.cell? ⟨H, j, none⟩ = some u) : Rd W size (.slice (some ⟨H, 0, none⟩) n n) cs :=
  ⟨_, n, n, rfl, hl, Nat.le_refl _, hn, fun _ => ⟨H, 0, rfl, hb, fun j u hu => by rw [Nat.zero_add]; exact h j u hu⟩⟩
/-- append(v, u...) as a step of a region that draws its order; the heap does not shrink. -/
theorem stepZ {P : Program} {ops : Array Oper} {o : Oper} {a : Act} {K : Act → World → Prop} {Q : Exit → Act → World → Prop} {E : Prop} (hgd : o.guard = none) (s x : Operand) (t : TypeId)
    (ho : o.op = .call { callee := .builtin .append, args := #[s, x], argTypes := #[t, t] })
    (w0 : World) (e : TypeId) (i : TypeInfo) (z : Value) (size bytes : Nat) (ht : P.underlying t = some (.slice e)) (hi : P.info? e = some i) (hz : i.zero = some z)
    (hsize : i.size = size) (hby : i.bytes = bytes) (hzs : z.cells.size = size) (hsz : 0 < size)
    (v : Value) (n : Nat) (xs : List Value) (hs : a.eval s = v) (wr : World) (hown : wr.ownsRow w0.heap.size e size v n xs) (hg : Grew w0 wr)
    (u : Value) (m : Nat) (cs : List Value) (hx : a.eval x = u) (hu : Rd wr size u cs) (hl : cs.length = m * size) (h1 : ∀ u ∈ cs, u.oneCell' = true)
    (h63 : n + m ≤ maxLen) (hbytes : (n + m) * bytes ≤ 140737488355328)
    (h : ∀ v' w', w'.ownsRow w0.heap.size e size v' (n + m) (xs ++ cs) → Grew w0 w' → (∀ p x, wr.cell? p = some x → some p.block ≠ v.ownBlock → w'.cell? p = some x) → wr.heap.size ≤ w'.heap.size → K (a.put o.dst v') w') : if Region.wanted o (yielded ops a.tmps) = true then Oper.wp P o a wr K Q else E := by
  have hw : Region.wanted o (yielded ops a.tmps) = true := by simp [Region.wanted, hgd]
  rw [if_pos hw]
  obtain ⟨A, m', c, rfl, hl', hmc, _, hr⟩ := hu
  obtain rfl : m' = m := Nat.eq_of_mul_eq_mul_right hsz (hl'.symm.trans hl)
  cases A with
  | none =>
    have hm0 : m' = 0 := by
      rcases Nat.eq_zero_or_pos m' with h0 | h0
      · exact h0
      · obtain ⟨b, off, hA, _⟩ := hr h0
        cases hA
    subst hm0
    have hcs : cs = [] := List.eq_nil_of_length_eq_zero (by omega)
    subst hcs
    have hrun := run_append_none wr w0.heap.size t o.type e i size ht hi v n xs hown c
    unfold Oper.wp execOp
    simp only [ho, resolve, invoke, builtin, Sem.run_bind, Sem.run_pure, Result.andThen_ok, List.map_toArray, List.map_cons, List.map_nil, hs, hx, hrun]
    exact h v wr (by simpa using hown) hg (fun p x hp _ => hp) (Nat.le_refl _)
  | some ad =>
    refine wp_append_own wr s x t ho w0.heap.size e i z size bytes ht hi hz hsize hby hzs hsz v n xs hs hown ad m' c cs hx hl ?_ h1 h63 hbytes hg.size ?_
    · intro j u hu
      have hj := (List.getElem?_eq_some_iff.1 hu).1
      have h0 : 0 < m' := by
        rcases Nat.eq_zero_or_pos m' with h0 | h0
        · subst h0; omega
        · exact h0
      obtain ⟨b, off, hA, _, hcell⟩ := hr h0
      cases hA
      rw [add_lit]
      exact hcell j u hu
    · intro v' w' h2 h3 _
      exact h v' w' h2 (Below.grown hg h3 hg.size (fun k hk => (hown.lt k hk).1)) (fun p x hp hne => h3.cell hp hne) h3.size
theorem insU_at (n : Int) : ∀ (l : List Int) (k : Nat), k ≤ l.length → (∀ j (h : j < l.length), j < k → l[j] < n) → (∀ h : k < l.length, n < l[k]) → insU n l = l.take k ++ n :: l.drop k
  | [], k, hk, _, _ => by
    obtain rfl : k = 0 := by simpa using hk
    rfl
  | x :: r, 0, _, _, h2 => by
    have h := h2 (by simp)
    simp only [List.getElem_cons_zero] at h
    rw [insU, if_neg (by omega), if_neg (by omega)]
    rfl
  | x :: r, k + 1, hk, h1, h2 => by
    have h := h1 0 (by simp) (by omega)
    simp only [List.getElem_cons_zero] at h
    rw [insU, if_pos h, insU_at n r k (by simpa using hk) (fun j hj hjk => by have := h1 (j + 1) (by simpa using hj) (by omega); simpa using this) (fun hj => by have := h2 (by simpa using hj); simpa using this)]
    rfl
theorem insU_in (n : Int) : ∀ (l : List Int) (k : Nat) (hk : k < l.length), (∀ j (h : j < l.length), j < k → l[j] < n) → l[k] = n → insU n l = l
  | [], _, hk, _, _ => absurd hk (Nat.not_lt_zero _)
  | x :: r, 0, _, _, h2 => by
    simp only [List.getElem_cons_zero] at h2
    rw [insU, if_neg (by omega), if_pos h2]
  | x :: r, k + 1, hk, h1, h2 => by
    have h := h1 0 (by simp) (by omega)
    simp only [List.getElem_cons_zero] at h
    rw [insU, if_pos h, insU_in n r k (by simpa using hk) (fun j hj hjk => by have := h1 (j + 1) (by simpa using hj) (by omega); simpa using this) (by simpa using h2)]
end Go.Proofs.YtfghbendiofbeaaGreatDoor

/- The reference's Insert into an ascending list of numbers, walked. The condition: the list is short. -/
namespace Go.Proofs.YtfghbendiofbeaaGreatDoor
open Go.RowKit

def RetI (l : List Int) (w : World) (e : Ending) (w' : World) : Prop := ∃ v, e = .returned v ∧ SlI w' v l ∧ Grew w w'
theorem ins_done {w : World} {base : Nat} {v : Value} {p q : List Int} {x : Int} {m : Nat} (h : w.ownsRow base 3 1 v m ([] ++ p.flatMap oneI ++ [.int .i64 x] ++ q.flatMap oneI)) : SlI w v (p ++ x :: q) := by
  have e : ([] ++ p.flatMap oneI ++ [.int .i64 x] ++ q.flatMap oneI) = (p ++ x :: q).flatMap oneI := by simp [oneI]
  rw [e] at h
  exact Rd.of_own h
set_option maxHeartbeats 8000000 in
set_option maxRecDepth 100000 in
theorem refInsert (l : List Int) (n : Int) (v : Value) (w : World) (hv : SlI w v l) (hl : l.length ≤ 1000000) : Calls Tryz.prog 69 #[v, .int .i64 n] w (RetI (insU n l) w) := by
  have HV := Lib.hid hv
  obtain ⟨A, c, rfl, hlc, hc, hr⟩ := hv.open_
  unfold maxLen at hc
  have HR := Lib.hid hr
  obtain ⟨k0, hk0, hx0, hx1, hx2⟩ := info_parts cinfoI
  have HI1 := Lib.hid (insU_at n l)
  have HI2 := Lib.hid (insU_in n l)
  generalize insU n l = R at HI1 HI2 ⊢
  clear hr hv
  go_enter Tryz.func69, Tryz.ntmps69
  go_wp2
  go_loop [5] (fun i => ∃ k : Nat, k ≤ l.length ∧ i = .int .i64 k ∧ Aside (∀ j (hj : j < l.length), j < k → l[j] < n)) (fun i => l.length - (intOf i).toNat)
  case atStart => exact ⟨0, by omega, rfl, (show Aside _ from fun j h h2 => absurd h2 (Nat.not_lt_zero _))⟩
  case round =>
    obtain ⟨k, hk, rfl, M⟩ := hrel
    have h0z : (0 : Int) ≤ (k : Int) := by omega
    by_cases hin : ∃ h : k < l.length, l[k] ≤ n
    · obtain ⟨hlt, hle⟩ := hin
      have hltz : (k : Int) < (l.length : Int) := by omega
      obtain ⟨b, off, rfl, hb, hcell⟩ := HR.out (by omega)
      have c0 := hcell _ (Grew.refl w) k hlt
      have HN : RowKit.Hid (l[k] < n → ∀ j (h : j < l.length), j < k + 1 → l[j] < n) := fun h j hj h2 => by
        by_cases e : j = k
        · subst e; exact h
        · exact M.out j hj (by omega)
      have HS := Lib.hid (HI2.out k hlt M.out)
      generalize l[k] = y at c0 HN HS hle
      clear hcell
      by_cases he : y = n
      · have he' : (y == n) = true := by simpa using he
        have hy : decide (y < n) = false := by simp; omega
        have hR := HS.out he
        subst hR
        clear HN HS he hle M HI1 HI2
        go_wp2
        go_ret
        exact ⟨_, rfl, HV.out, Grew.refl _⟩
      · have hy : decide (y < n) = true := by simp; omega
        have Hy := Lib.hid (HN.out (by omega))
        clear HN HS he M HI1 HI2
        go_wp2
        go_round
        case rel => exact ⟨k + 1, by omega, by go_num, (show Aside _ from Hy.out)⟩
        case measure => simp [intOf]; omega
    have hR := HI1.out k hk M.out (fun h => by by_cases e : l[k] ≤ n; · exact absurd ⟨h, e⟩ hin
                                               · omega)
    subst hR
    clear HI1 HI2 M
    have hsz1 : 0 < 1 := by omega
    have e1 := part_to Tryz.underlying43 hk0 A l.length c k hk hlc
    have e2 := part_from Tryz.underlying43 hk0 hx1 A l.length c k hk
    have HP : RowKit.Hid (∀ W, Grew w W → Rd W 1 (.slice A k c) ((l.take k).flatMap oneI)) := fun W hW => by
      have h := preV_rd (Rd.mono HV.out hW) hk
      rw [(flat_take (f := oneI) (k := 1) (fun _ => rfl) l k).1] at h
      exact h
    have HS : RowKit.Hid (∀ W, Grew w W → Rd W 1 (sufV A l.length c k 1) ((l.drop k).flatMap oneI)) := fun W hW => by
      have h := sufV_rd (Rd.mono HV.out hW) hk
      rw [(flat_take (f := oneI) (k := 1) (fun _ => rfl) l k).2] at h
      exact h
    generalize sufV A l.length c k 1 = V2 at e2 HS
    have hpl : ((l.take k).flatMap oneI).length = k * 1 := by rw [flatMap_len oneI 1 (fun _ => rfl), List.length_take, Nat.min_eq_left hk]
    have hsl : ((l.drop k).flatMap oneI).length = (l.length - k) * 1 := by rw [flatMap_len oneI 1 (fun _ => rfl), List.length_drop]
    have hp63 : 0 + k ≤ maxLen := by unfold maxLen; omega
    have hpb : (0 + k) * 8 ≤ 140737488355328 := by omega
    have hq63 : 0 + k + 1 ≤ maxLen := by unfold maxLen; omega
    have hqb : (0 + k + 1) * 8 ≤ 140737488355328 := by omega
    have hs63 : 0 + k + 1 + (l.length - k) ≤ maxLen := by unfold maxLen; omega
    have hsb : (0 + k + 1 + (l.length - k)) * 8 ≤ 140737488355328 := by omega
    have hone : ∀ u ∈ [Value.int .i64 n], u.oneCell' = true := by simp [Value.oneCell']
    have HPL := Lib.hid hpl
    have HSL := Lib.hid hsl
    clear hpl hsl
    have hcase : (k < l.length ∧ ∃ b off, A = some ⟨b, off, none⟩ ∧ ∃ y, n < y ∧ w.cell? ⟨b, off + k, none⟩ = some (.int .i64 y)) ∨ ¬ k < l.length := by
      by_cases hlt : k < l.length
      · obtain ⟨b, off, hA, hb, hcell⟩ := HR.out (by omega)
        exact .inl ⟨hlt, b, off, hA, l[k], by by_cases e : l[k] ≤ n; · exact absurd ⟨hlt, e⟩ hin
                                              · omega, hcell _ (Grew.refl w) k hlt⟩
      · exact .inr hlt
    clear hin
    rcases hcase with ⟨hlt, b, off, rfl, y, hy, c0⟩ | hge
    · have hltz : (k : Int) < (l.length : Int) := by omega
      have hy1 : decide (y < n) = false := by simp; omega
      have hy2 : (y == n) = false := by simp; omega
      clear hlt hy
      go_wp2_with fail
      clear c0 hy1 hy2
      go_region_law (first | (refine stepZ (o := ⟨some 37, _, _, _, _, _⟩) (by rfl) (.tmp 33) (.tmp 36) 43 (by rfl) w 3 k0 (.int .i64 0) 1 8 Tryz.underlying43 hk0 hx0 hx1 hx2 rfl hsz1 _ 0 [] (by rfl) _ (by repeat (first | exact own_lit _ (by simp) (by simp) | refine World.ownsRow.alloc ?_ _)) (by repeat (first | exact Grew.refl _ | assumption | refine Grew.setCell ?_ (by simp <;> omega) _ | refine Grew.alloc ?_ _ | refine Grew.drew ?_ | refine Grew.drewN ?_ _ | refine Grew.trans ?_ (by assumption))) _ k _ (by rfl) (HP.out _ (by repeat (first | exact Grew.refl _ | assumption | refine Grew.setCell ?_ (by simp <;> omega) _ | refine Grew.alloc ?_ _ | refine Grew.drew ?_ | refine Grew.drewN ?_ _ | refine Grew.trans ?_ (by assumption)))) HPL.out (one_cellsI _) hp63 hpb ?_; intro v1 w1 o1 g1 q1 z1; have O1 := Lib.hid o1; have G1 := Lib.hid g1; have X1 := Lib.hid q1; (try simp at z1); clear o1 g1 q1) | (refine stepZ (o := ⟨some 40, _, _, _, _, _⟩) (by rfl) (.tmp 37) (.tmp 39) 43 (by rfl) w 3 k0 (.int .i64 0) 1 8 Tryz.underlying43 hk0 hx0 hx1 hx2 rfl hsz1 _ (0 + k) ([] ++ (l.take k).flatMap oneI) (by rfl) _ (by repeat (first | exact O1.out | refine World.ownsRow.alloc ?_ _)) (by repeat (first | exact G1.out | refine Grew.alloc ?_ _ | refine Grew.drew ?_)) _ 1 [.int .i64 n] (by rfl) (by first | exact rd_lit _ rfl _ (by simp) | exact rd_block rfl (by decide) (by omega) (fun j u hu => by rcases j with _ | j <;> simp at hu; subst hu; exact X1.out _ _ (by simp) (by change some _ ≠ some _; simp))) (by simp) hone hq63 hqb ?_; intro v2 w2 o2 g2 q2 z2; have O2 := Lib.hid o2; have G2 := Lib.hid g2; clear o2 g2 q2 z2) | (refine stepZ (o := ⟨some 44, _, _, _, _, _⟩) (by rfl) (.tmp 40) (.tmp 43) 43 (by rfl) w 3 k0 (.int .i64 0) 1 8 Tryz.underlying43 hk0 hx0 hx1 hx2 rfl hsz1 _ (0 + k + 1) ([] ++ (l.take k).flatMap oneI ++ [.int .i64 n]) (by rfl) _ O2.out G2.out _ (l.length - k) _ (by rfl) (HS.out _ G2.out) HSL.out (one_cellsI _) hs63 hsb ?_; intro v3 w3 o3 g3 q3 z3; have O3 := Lib.hid o3; have G3 := Lib.hid g3; clear o3 g3 q3 z3))
      all_goals
        go_wp2_with fail
        go_ret
        exact ⟨_, rfl, ins_done O3.out, G3.out⟩
    · have hltz : ¬ (k : Int) < (l.length : Int) := by omega
      clear hge
      go_wp2_with fail
      go_region_law (first | (refine stepZ (o := ⟨some 37, _, _, _, _, _⟩) (by rfl) (.tmp 33) (.tmp 36) 43 (by rfl) w 3 k0 (.int .i64 0) 1 8 Tryz.underlying43 hk0 hx0 hx1 hx2 rfl hsz1 _ 0 [] (by rfl) _ (by repeat (first | exact own_lit _ (by simp) (by simp) | refine World.ownsRow.alloc ?_ _)) (by repeat (first | exact Grew.refl _ | assumption | refine Grew.setCell ?_ (by simp <;> omega) _ | refine Grew.alloc ?_ _ | refine Grew.drew ?_ | refine Grew.drewN ?_ _ | refine Grew.trans ?_ (by assumption))) _ k _ (by rfl) (HP.out _ (by repeat (first | exact Grew.refl _ | assumption | refine Grew.setCell ?_ (by simp <;> omega) _ | refine Grew.alloc ?_ _ | refine Grew.drew ?_ | refine Grew.drewN ?_ _ | refine Grew.trans ?_ (by assumption)))) HPL.out (one_cellsI _) hp63 hpb ?_; intro v1 w1 o1 g1 q1 z1; have O1 := Lib.hid o1; have G1 := Lib.hid g1; have X1 := Lib.hid q1; (try simp at z1); clear o1 g1 q1) | (refine stepZ (o := ⟨some 40, _, _, _, _, _⟩) (by rfl) (.tmp 37) (.tmp 39) 43 (by rfl) w 3 k0 (.int .i64 0) 1 8 Tryz.underlying43 hk0 hx0 hx1 hx2 rfl hsz1 _ (0 + k) ([] ++ (l.take k).flatMap oneI) (by rfl) _ (by repeat (first | exact O1.out | refine World.ownsRow.alloc ?_ _)) (by repeat (first | exact G1.out | refine Grew.alloc ?_ _ | refine Grew.drew ?_)) _ 1 [.int .i64 n] (by rfl) (by first | exact rd_lit _ rfl _ (by simp) | exact rd_block rfl (by decide) (by omega) (fun j u hu => by rcases j with _ | j <;> simp at hu; subst hu; exact X1.out _ _ (by simp) (by change some _ ≠ some _; simp))) (by simp) hone hq63 hqb ?_; intro v2 w2 o2 g2 q2 z2; have O2 := Lib.hid o2; have G2 := Lib.hid g2; clear o2 g2 q2 z2) | (refine stepZ (o := ⟨some 44, _, _, _, _, _⟩) (by rfl) (.tmp 40) (.tmp 43) 43 (by rfl) w 3 k0 (.int .i64 0) 1 8 Tryz.underlying43 hk0 hx0 hx1 hx2 rfl hsz1 _ (0 + k + 1) ([] ++ (l.take k).flatMap oneI ++ [.int .i64 n]) (by rfl) _ O2.out G2.out _ (l.length - k) _ (by rfl) (HS.out _ G2.out) HSL.out (one_cellsI _) hs63 hsb ?_; intro v3 w3 o3 g3 q3 z3; have O3 := Lib.hid o3; have G3 := Lib.hid g3; clear o3 g3 q3 z3))
      all_goals
        go_wp2_with fail
        go_ret
        exact ⟨_, rfl, ins_done O3.out, G3.out⟩
end Go.Proofs.YtfghbendiofbeaaGreatDoor
