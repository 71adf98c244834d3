/- Lemmas on what the functions of the program and of the library compute: RC5, RB2, RB3, FrameR. The conditions stand at each. -/
import Derived.Test.YtfghbendiofbeaaGreatDoorQ27
import Derived.Test.YtfghbendiofbeaaGreatDoorQ28
import Derived.Test.YtfghbendiofbeaaGreatDoorQ10
import Derived.Test.YtfghbendiofbeaaGreatDoorCards
import Derived.Test.YtfghbendiofbeaaGreatDoorTie
import Derived.Test.YtfghbendiofbeaaGreatDoorQ1
import Derived.Test.YtfghbendiofbeaaGreatDoorQ4
import Derived.WalkKit
import Derived.ProofKit
import Derived.OpenShut
import Derived.Carry
import Derived.ChangeMaps5
import Derived.SliceStrings
import Derived.Deep.Slices
import Derived.Deep.DeepHandedRow
import Derived.Lib.LaidTab
import Derived.LaidSub
import Derived.Shelf.Vars
/- The reference's Text of a relation, walked. No condition. -/
namespace Go.Proofs.YtfghbendiofbeaaGreatDoor
open Go.RowKit

theorem formedR6 (x : Rel) : formedR x = (formed6 x && within x.auth 1 1073741824) := by
  unfold formedR formed6
  cases within x.unit 1 1073741824 <;> cases within x.auth 1 1073741824 <;> simp
set_option maxHeartbeats 4000000 in
theorem refText_no (x : Rel) (w : World) (h : formedR x = false) : Calls Tryz.prog 18 #[x.agg] w fun e w' => e = .returned (.tuple #[.string ⟨#[]⟩, .int .i64 2]) ∧ Grew w w' := by
  rw [formedR6] at h
  have kF := refFormed x
  have ha : within x.auth 1 1073741824 = false → decide (x.auth < 1) = true ∨ (decide (x.auth < 1) = false ∧ decide (1073741824 < x.auth) = true) := fun h => by
    rw [within_f] at h
    by_cases h1 : x.auth < 1
    · exact .inl (by simpa using h1)
    · exact .inr ⟨by simpa using h1, by simp; omega⟩
  generalize within x.auth 1 1073741824 = q2 at h ha
  generalize formed6 x = q1 at h kF
  obtain ⟨xu, xr, xa, xf, xn⟩ := x
  unfold Rel.agg at kF ⊢
  dsimp only at kF ha ⊢
  have KF := Lib.hid kF
  clear kF
  cases q1
  · clear h ha
    go_enter Tryz.func18, Tryz.ntmps18
    go_wp2_with fail
    refine (KF.out _).mono ?_
    rintro e w1 ⟨rfl, g1⟩
    dsimp only
    go_wp2
    go_ret2
    exact ⟨rfl, ((Grew.refl w).alloc _).trans g1⟩
  · have hq : q2 = false := by simpa using h
    rcases ha hq with a1 | ⟨a1, a2⟩
    all_goals
      clear ha hq h
      go_enter Tryz.func18, Tryz.ntmps18
      go_wp2_with fail
      refine (KF.out _).mono ?_
      rintro e w1 ⟨rfl, g1⟩
      have b2 := new_cell g1 2 _ rfl
      have HG := Lib.hid (((Grew.refl w).alloc _).trans g1)
      clear g1
      dsimp only
      go_wp2
      go_ret2
      exact ⟨rfl, HG.out⟩
set_option maxHeartbeats 8000000 in
set_option maxRecDepth 100000 in
theorem refText_yes (x : Rel) (w : World) (h : formedR x = true) : Calls Tryz.prog 18 #[x.agg] w fun e w' => e = .returned (.tuple #[.string (textU x), .int .i64 0]) ∧ Grew w w' := by
  obtain ⟨h1, h2, h3, h4⟩ := formed_t h
  rw [formedR6, Bool.and_eq_true] at h
  have kF := refFormed x
  rw [h.1] at kF
  rw [within_t] at h1 h2 h3
  rw [spans_t] at h4
  have kI := fun W => refDecimal x.unit (by omega) (by omega) W
  have kA := fun W => refDecimal x.auth (by omega) (by omega) W
  have kD := fun W => refDecimal x.fr (by omega) (by omega) W
  have kN := fun W => refDecimal x.un (by omega) (by omega) W
  unfold textU textS
  obtain ⟨xu, xr, xa, xf, xn⟩ := x
  unfold Rel.agg at kF ⊢
  dsimp only at h1 h2 h3 h4 kF kI kA kD kN ⊢
  have hsu := itoaB_size xu (by omega) (by omega)
  have hsa := itoaB_size xa (by omega) (by omega)
  have hsf := itoaB_size xf (by omega) (by omega)
  have hsn := itoaB_size xn (by omega) (by omega)
  generalize itoaB xu = su at kI hsu ⊢
  generalize itoaB xa = sa at kA hsa ⊢
  generalize itoaB xf = sf at kD hsf ⊢
  generalize itoaB xn = sn at kN hsn ⊢
  have KF := Lib.hid kF
  have KI := Lib.hid kI
  have KA := Lib.hid kA
  have KD := Lib.hid kD
  have KN := Lib.hid kN
  have a1 : decide (xa < 1) = false := by simp; omega
  have a2 : decide (1073741824 < xa) = false := by simp; omega
  have hw : (wordF xr).size ≤ 7 := by
    unfold wordF
    split
    · decide
    · split
      · decide
      · split <;> decide
  have hr : (xr = 1 ∧ wordF xr = ⟨#[99, 114, 101, 97, 116, 111, 114]⟩) ∨ (xr = 2 ∧ wordF xr = ⟨#[97, 117, 116, 104, 111, 114]⟩) ∨ (xr = 3 ∧ wordF xr = ⟨#[115, 117, 98, 106, 101, 99, 116]⟩) ∨ (xr = 4 ∧ wordF xr = ⟨#[111, 119, 110, 101, 114]⟩) := by
    have h : xr = 1 ∨ xr = 2 ∨ xr = 3 ∨ xr = 4 := by omega
    rcases h with rfl | rfl | rfl | rfl <;> simp [wordF]
  have hsp : (⟨#[32]⟩ : ByteArray).size ≤ 1 := by decide
  have hfm : (⟨#[32, 102, 114, 111, 109, 32]⟩ : ByteArray).size ≤ 6 := by decide
  have hut : (⟨#[32, 117, 110, 116, 105, 108, 32]⟩ : ByteArray).size ≤ 7 := by decide
  have z1 := cat_size hsu hsp
  have z2 := cat_size z1 hw
  have z3 := cat_size z2 hsp
  have z4 := cat_size z3 hsa
  have z5 := cat_size z4 hfm
  have z6 := cat_size z5 hsf
  have z7 := cat_size hut hsn
  have r1 := cat_run hsu hsp (by omega) (by omega)
  have r2 := cat_run z1 hw (by omega) (by omega)
  have r3 := cat_run z2 hsp (by omega) (by omega)
  have r4 := cat_run z3 hsa (by omega) (by omega)
  have r5 := cat_run z4 hfm (by omega) (by omega)
  have r6 := cat_run z5 hsf (by omega) (by omega)
  have r7 := cat_run hut hsn (by omega) (by omega)
  have r8 := cat_run z6 z7 (by omega) (by omega)
  clear hsu hsa hsf hsn hw hsp hfm hut z1 z2 z3 z4 z5 z6 z7
  clear kF kI kA kD kN h
  rcases hr with ⟨rfl, hw⟩ | ⟨rfl, hw⟩ | ⟨rfl, hw⟩ | ⟨rfl, hw⟩
  all_goals
    rw [hw] at r2 r3 r4 r5 r6 r8 ⊢
    clear hw
    by_cases hu : xn = 1048576
    case pos =>
      subst hu
      simp only [if_true]
      go_enter Tryz.func18, Tryz.ntmps18
      go_wp2_with fail
      refine (KF.out _).mono ?_
      rintro e w1 ⟨rfl, g1⟩
      have b2 := new_cell g1 2 _ rfl
      have b1 := keep_cell ((Grew.refl w1).alloc (.cells #[.string ⟨#[]⟩, .string ⟨#[99, 114, 101, 97, 116, 111, 114]⟩, .string ⟨#[97, 117, 116, 104, 111, 114]⟩, .string ⟨#[115, 117, 98, 106, 101, 99, 116]⟩, .string ⟨#[111, 119, 110, 101, 114]⟩] 9)) (new_cell g1 1 _ rfl)
      dsimp only
      go_wp2_with fail
      clear b2 b1
      have GX := Lib.hid (show Grew w (w1.alloc (.cells #[.string ⟨#[]⟩, .string ⟨#[99, 114, 101, 97, 116, 111, 114]⟩, .string ⟨#[97, 117, 116, 104, 111, 114]⟩, .string ⟨#[115, 117, 98, 106, 101, 99, 116]⟩, .string ⟨#[111, 119, 110, 101, 114]⟩] 9)) from (((Grew.refl w).alloc _).trans g1).alloc _)
      have GY := Lib.hid ((Grew.refl w1).alloc (.cells #[.string ⟨#[]⟩, .string ⟨#[99, 114, 101, 97, 116, 111, 114]⟩, .string ⟨#[97, 117, 116, 104, 111, 114]⟩, .string ⟨#[115, 117, 98, 106, 101, 99, 116]⟩, .string ⟨#[111, 119, 110, 101, 114]⟩] 9))
      have f0 := Gr.cell (keep_cell GY.out (new_cell g1 0 _ rfl))
      have f2 := Gr.cell (keep_cell GY.out (new_cell g1 2 _ rfl))
      have f3 := Gr.cell (keep_cell GY.out (new_cell g1 3 _ rfl))
      have b4 := keep_cell GY.out (new_cell g1 4 _ rfl)
      clear g1 GY
      generalize w1.alloc (.cells #[.string ⟨#[]⟩, .string ⟨#[99, 114, 101, 97, 116, 111, 114]⟩, .string ⟨#[97, 117, 116, 104, 111, 114]⟩, .string ⟨#[115, 117, 98, 106, 101, 99, 116]⟩, .string ⟨#[111, 119, 110, 101, 114]⟩] 9) = W2 at GX f0 f2 f3 b4 ⊢
      refine region_gr W2 (by kernel_rfl) (by kernel_rfl) (Grew.refl _) ?_
      repeat (first | go_big_quiet_step ((exact Gr.calls _ (by first | with_reducible exact KI.out _ | with_reducible exact KA.out _ | with_reducible exact KD.out _))) | quiet_step ((exact Gr.calls _ (by first | with_reducible exact KI.out _ | with_reducible exact KA.out _ | with_reducible exact KD.out _))))
      refine wpQuiet_nil ?_
      intro _ hw'
      obtain ⟨wi, rfl⟩ := hw'
      have HWI := Lib.hid wi.g
      have GW := Lib.hid (GX.out.trans wi.g)
      have c4 := keep_cell HWI.out b4
      clear f0 f2 f3 b4
      go_wp2
      go_ret2
      exact ⟨rfl, GW.out⟩
    case neg =>
      have hu' : xn < 1048576 := by omega
      rw [if_neg hu]
      clear hu
      go_enter Tryz.func18, Tryz.ntmps18
      go_wp2_with fail
      refine (KF.out _).mono ?_
      rintro e w1 ⟨rfl, g1⟩
      have b2 := new_cell g1 2 _ rfl
      have b1 := keep_cell ((Grew.refl w1).alloc (.cells #[.string ⟨#[]⟩, .string ⟨#[99, 114, 101, 97, 116, 111, 114]⟩, .string ⟨#[97, 117, 116, 104, 111, 114]⟩, .string ⟨#[115, 117, 98, 106, 101, 99, 116]⟩, .string ⟨#[111, 119, 110, 101, 114]⟩] 9)) (new_cell g1 1 _ rfl)
      dsimp only
      go_wp2_with fail
      clear b2 b1
      have GX := Lib.hid (show Grew w (w1.alloc (.cells #[.string ⟨#[]⟩, .string ⟨#[99, 114, 101, 97, 116, 111, 114]⟩, .string ⟨#[97, 117, 116, 104, 111, 114]⟩, .string ⟨#[115, 117, 98, 106, 101, 99, 116]⟩, .string ⟨#[111, 119, 110, 101, 114]⟩] 9)) from (((Grew.refl w).alloc _).trans g1).alloc _)
      have GY := Lib.hid ((Grew.refl w1).alloc (.cells #[.string ⟨#[]⟩, .string ⟨#[99, 114, 101, 97, 116, 111, 114]⟩, .string ⟨#[97, 117, 116, 104, 111, 114]⟩, .string ⟨#[115, 117, 98, 106, 101, 99, 116]⟩, .string ⟨#[111, 119, 110, 101, 114]⟩] 9))
      have f0 := Gr.cell (keep_cell GY.out (new_cell g1 0 _ rfl))
      have f2 := Gr.cell (keep_cell GY.out (new_cell g1 2 _ rfl))
      have f3 := Gr.cell (keep_cell GY.out (new_cell g1 3 _ rfl))
      have b4 := keep_cell GY.out (new_cell g1 4 _ rfl)
      clear g1 GY
      generalize w1.alloc (.cells #[.string ⟨#[]⟩, .string ⟨#[99, 114, 101, 97, 116, 111, 114]⟩, .string ⟨#[97, 117, 116, 104, 111, 114]⟩, .string ⟨#[115, 117, 98, 106, 101, 99, 116]⟩, .string ⟨#[111, 119, 110, 101, 114]⟩] 9) = W2 at GX f0 f2 f3 b4 ⊢
      refine region_gr W2 (by kernel_rfl) (by kernel_rfl) (Grew.refl _) ?_
      repeat (first | go_big_quiet_step ((exact Gr.calls _ (by first | with_reducible exact KI.out _ | with_reducible exact KA.out _ | with_reducible exact KD.out _))) | quiet_step ((exact Gr.calls _ (by first | with_reducible exact KI.out _ | with_reducible exact KA.out _ | with_reducible exact KD.out _))))
      refine wpQuiet_nil ?_
      intro _ hw'
      obtain ⟨wi, rfl⟩ := hw'
      have HWI := Lib.hid wi.g
      have GW := Lib.hid (GX.out.trans wi.g)
      have c4 := keep_cell HWI.out b4
      clear f0 f2 f3 b4
      go_wp2_with fail
      refine (KN.out _).mono ?_
      rintro e w5 ⟨rfl, g5⟩
      dsimp only
      go_wp2
      go_ret2
      exact ⟨rfl, GW.out.trans g5⟩
theorem refText (x : Rel) (w : World) : Calls Tryz.prog 18 #[x.agg] w fun e w' => e = .returned (.tuple #[.string (textF x).1, .int .i64 (textF x).2]) ∧ Grew w w' := by
  unfold textF
  cases h : formedR x
  · exact refText_no x w h
  · exact refText_yes x w h
end Go.Proofs.YtfghbendiofbeaaGreatDoor

/- The reference's order of relations, walked. No condition. -/
namespace Go.Proofs.YtfghbendiofbeaaGreatDoor
open Go.RowKit

def lessF : List Int → List Int → Bool
  | x :: p, y :: q => if x = y then lessF p q else decide (x < y)
  | _, _ => false
theorem lessF_hit : ∀ (p q : List Int) (k : Nat) (hp : k < p.length) (hq : k < q.length), (∀ j (h : j < p.length) (h' : j < q.length), j < k → p[j] = q[j]) → p[k] ≠ q[k] → lessF p q = decide (p[k] < q[k])
  | [], _, _, hp, _, _, _ => absurd hp (Nat.not_lt_zero _)
  | _ :: _, [], _, _, hq, _, _ => absurd hq (Nat.not_lt_zero _)
  | x :: p, y :: q, 0, _, _, _, hn => by simp only [List.getElem_cons_zero] at hn ⊢; rw [lessF, if_neg hn]
  | x :: p, y :: q, k + 1, hp, hq, h, hn => by
    have h0 : x = y := h 0 (by simp) (by simp) (by omega)
    simp only [List.getElem_cons_succ] at hn ⊢
    rw [lessF, if_pos h0]
    exact lessF_hit p q k _ _ (fun j hj hj' hjk => h (j + 1) (by simpa using hj) (by simpa using hj') (by omega)) hn
theorem lessF_miss : ∀ (p q : List Int), p.length = q.length → (∀ j (h : j < p.length) (h' : j < q.length), p[j] = q[j]) → lessF p q = false
  | [], [], _, _ => rfl
  | [], _ :: _, hl, _ => by simp at hl
  | _ :: _, [], hl, _ => by simp at hl
  | x :: p, y :: q, hl, h => by
    have h0 : x = y := h 0 (by simp) (by simp)
    rw [lessF, if_pos h0]
    exact lessF_miss p q (by simpa using hl) (fun j hj hj' => h (j + 1) (by simpa using hj) (by simpa using hj'))
theorem size_of_alloc (w : World) (o : Obj) : (w.alloc o).heap.size = w.heap.size + 1 := by simp
theorem held8 (w1 W : World) {p0 p1 p2 p3 q0 q1 q2 q3 : Addr} {x0 x1 x2 x3 y0 y1 y2 y3 : Value} (a0 : w1.cell? p0 = some x0) (a1 : w1.cell? p1 = some x1) (a2 : w1.cell? p2 = some x2) (a3 : w1.cell? p3 = some x3) (c0 : w1.cell? q0 = some y0) (c1 : w1.cell? q1 = some y1) (c2 : w1.cell? q2 = some y2) (c3 : w1.cell? q3 = some y3) (g : Grew w1 W) :
    W.cell? p0 = some x0 ∧ W.cell? p1 = some x1 ∧ W.cell? p2 = some x2 ∧ W.cell? p3 = some x3 ∧ W.cell? q0 = some y0 ∧ W.cell? q1 = some y1 ∧ W.cell? q2 = some y2 ∧ W.cell? q3 = some y3 := ⟨keep_cell g a0, keep_cell g a1, keep_cell g a2, keep_cell g a3, keep_cell g c0, keep_cell g c1, keep_cell g c2, keep_cell g c3⟩
def keyR (x : Rel) : List Int := [x.unit, x.role, x.auth, x.fr]
theorem less_order (x y : Rel) : lessF (keyR x) (keyR y) = decide (orderR x y < 0) := by
  rw [Bool.eq_iff_iff, decide_eq_true_eq, orderR_lt]
  unfold keyR ltR
  simp only [lessF]
  by_cases h1 : x.unit = y.unit <;> by_cases h2 : x.role = y.role <;> by_cases h3 : x.auth = y.auth <;> by_cases h4 : x.fr = y.fr <;> simp [h1, h2, h3, h4]
theorem slI_cell {W W' : World} {b n c : Nat} {l : List Int} (h : SlI W (.slice (some ⟨b, 0, none⟩) n c) l) (g : Grew W W') (k : Nat) (hk : k < l.length) : W'.cell? ⟨b, k, none⟩ = some (.int .i64 l[k]) := by
  obtain ⟨A, d, hv, _, _, hr⟩ := h.open_
  obtain ⟨rfl, rfl, rfl⟩ := Value.slice.inj hv
  obtain ⟨b', off, hA, _, hc⟩ := hr (by omega)
  obtain ⟨rfl, rfl⟩ : b' = b ∧ off = 0 := by cases hA; exact ⟨rfl, rfl⟩
  have := hc W' g k hk
  rw [Nat.zero_add] at this
  exact this
set_option maxHeartbeats 8000000 in
set_option maxRecDepth 100000 in
theorem refLess (x y : Rel) (w : World) : Calls Tryz.prog 46 #[x.agg, y.agg] w fun e w' => e = .returned (.bool (decide (orderR x y < 0))) ∧ Grew w w' := by
  rw [← less_order]
  have hx0 := fun W => Rd.fresh W 3 1 4 [.int .i64 x.unit, .int .i64 x.role, .int .i64 x.auth, .int .i64 x.fr] rfl (by decide)
  have hy0 := fun W => Rd.fresh W 3 1 4 [.int .i64 y.unit, .int .i64 y.role, .int .i64 y.auth, .int .i64 y.fr] rfl (by decide)
  have hx1 : ∀ W : World, SlI (W.alloc (.cells #[.int .i64 x.unit, .int .i64 x.role, .int .i64 x.auth, .int .i64 x.fr] 3)) (.slice (some ⟨W.heap.size, 0, none⟩) 4 4) (keyR x) := fun W => hx0 W
  have hy1 : ∀ W : World, SlI (W.alloc (.cells #[.int .i64 y.unit, .int .i64 y.role, .int .i64 y.auth, .int .i64 y.fr] 3)) (.slice (some ⟨W.heap.size, 0, none⟩) 4 4) (keyR y) := fun W => hy0 W
  have hlx : (keyR x).length = 4 := rfl
  have hly : (keyR y).length = 4 := rfl
  generalize keyR x = p at hx1 hlx ⊢
  generalize keyR y = q at hy1 hly ⊢
  have H1 := Lib.hid (lessF_hit p q)
  have H2 := Lib.hid (lessF_miss p q (by omega))
  generalize lessF p q = R at H1 H2 ⊢
  have HX := Lib.hid hx1
  have HY := Lib.hid hy1
  have HLX := Lib.hid hlx
  have HLY := Lib.hid hly
  obtain ⟨xu, xr, xa, xf, xn⟩ := x
  obtain ⟨yu, yr, ya, yf, yn⟩ := y
  unfold Rel.agg
  dsimp only at HX HY ⊢
  clear hx0 hy0 hx1 hy1 hlx hly
  go_enter Tryz.func46, Tryz.ntmps46
  go_wp2
  have a0 := keep_cell ((Grew.refl (w.alloc (.cells #[.int .i64 xu, .int .i64 xr, .int .i64 xa, .int .i64 xf, .int .i64 xn] 27))).alloc (.cells #[.int .i64 yu, .int .i64 yr, .int .i64 ya, .int .i64 yf, .int .i64 yn] 27)) (new_cell (Grew.refl (w.alloc (.cells #[.int .i64 xu, .int .i64 xr, .int .i64 xa, .int .i64 xf, .int .i64 xn] 27))) 0 _ rfl)
  have a1 := keep_cell ((Grew.refl (w.alloc (.cells #[.int .i64 xu, .int .i64 xr, .int .i64 xa, .int .i64 xf, .int .i64 xn] 27))).alloc (.cells #[.int .i64 yu, .int .i64 yr, .int .i64 ya, .int .i64 yf, .int .i64 yn] 27)) (new_cell (Grew.refl (w.alloc (.cells #[.int .i64 xu, .int .i64 xr, .int .i64 xa, .int .i64 xf, .int .i64 xn] 27))) 1 _ rfl)
  have a2 := keep_cell ((Grew.refl (w.alloc (.cells #[.int .i64 xu, .int .i64 xr, .int .i64 xa, .int .i64 xf, .int .i64 xn] 27))).alloc (.cells #[.int .i64 yu, .int .i64 yr, .int .i64 ya, .int .i64 yf, .int .i64 yn] 27)) (new_cell (Grew.refl (w.alloc (.cells #[.int .i64 xu, .int .i64 xr, .int .i64 xa, .int .i64 xf, .int .i64 xn] 27))) 2 _ rfl)
  have a3 := keep_cell ((Grew.refl (w.alloc (.cells #[.int .i64 xu, .int .i64 xr, .int .i64 xa, .int .i64 xf, .int .i64 xn] 27))).alloc (.cells #[.int .i64 yu, .int .i64 yr, .int .i64 ya, .int .i64 yf, .int .i64 yn] 27)) (new_cell (Grew.refl (w.alloc (.cells #[.int .i64 xu, .int .i64 xr, .int .i64 xa, .int .i64 xf, .int .i64 xn] 27))) 3 _ rfl)
  have c0 := new_cell (Grew.refl ((w.alloc (.cells #[.int .i64 xu, .int .i64 xr, .int .i64 xa, .int .i64 xf, .int .i64 xn] 27)).alloc (.cells #[.int .i64 yu, .int .i64 yr, .int .i64 ya, .int .i64 yf, .int .i64 yn] 27))) 0 _ rfl
  have c1 := new_cell (Grew.refl ((w.alloc (.cells #[.int .i64 xu, .int .i64 xr, .int .i64 xa, .int .i64 xf, .int .i64 xn] 27)).alloc (.cells #[.int .i64 yu, .int .i64 yr, .int .i64 ya, .int .i64 yf, .int .i64 yn] 27))) 1 _ rfl
  have c2 := new_cell (Grew.refl ((w.alloc (.cells #[.int .i64 xu, .int .i64 xr, .int .i64 xa, .int .i64 xf, .int .i64 xn] 27)).alloc (.cells #[.int .i64 yu, .int .i64 yr, .int .i64 ya, .int .i64 yf, .int .i64 yn] 27))) 2 _ rfl
  have c3 := new_cell (Grew.refl ((w.alloc (.cells #[.int .i64 xu, .int .i64 xr, .int .i64 xa, .int .i64 xf, .int .i64 xn] 27)).alloc (.cells #[.int .i64 yu, .int .i64 yr, .int .i64 ya, .int .i64 yf, .int .i64 yn] 27))) 3 _ rfl
  simp only [size_of_alloc] at c0 c1 c2 c3
  have G0 := Lib.hid (((Grew.refl w).alloc (.cells #[.int .i64 xu, .int .i64 xr, .int .i64 xa, .int .i64 xf, .int .i64 xn] 27)).alloc (.cells #[.int .i64 yu, .int .i64 yr, .int .i64 ya, .int .i64 yf, .int .i64 yn] 27))
  generalize (w.alloc (.cells #[.int .i64 xu, .int .i64 xr, .int .i64 xa, .int .i64 xf, .int .i64 xn] 27)).alloc (.cells #[.int .i64 yu, .int .i64 yr, .int .i64 ya, .int .i64 yf, .int .i64 yn] 27) = W0 at a0 a1 a2 a3 c0 c1 c2 c3 G0 ⊢
  generalize w.heap.size + 1 = B2 at c0 c1 c2 c3 ⊢
  generalize w.heap.size = B1 at a0 a1 a2 a3 ⊢
  go_region_held3 (fun W => W.cell? ⟨B1, 0, none⟩ = some (.int .i64 xu) ∧ W.cell? ⟨B1, 1, none⟩ = some (.int .i64 xr) ∧ W.cell? ⟨B1, 2, none⟩ = some (.int .i64 xa) ∧ W.cell? ⟨B1, 3, none⟩ = some (.int .i64 xf) ∧ W.cell? ⟨B2, 0, none⟩ = some (.int .i64 yu) ∧ W.cell? ⟨B2, 1, none⟩ = some (.int .i64 yr) ∧ W.cell? ⟨B2, 2, none⟩ = some (.int .i64 ya) ∧ W.cell? ⟨B2, 3, none⟩ = some (.int .i64 yf)) (refine held8 W0 _ a0 a1 a2 a3 c0 c1 c2 c3 (by repeat (first | exact Grew.refl W0 | refine Grew.drew ?_ | refine Grew.alloc ?_ _))) (fail)
  all_goals go_wp2_with fail
  all_goals clear a0 a1 a2 a3 c0 c1 c2 c3
  · skip
    have sp := ((HX.out W0).mono ((Grew.refl _).alloc (.cells #[.int .i64 yu, .int .i64 yr, .int .i64 ya, .int .i64 yf] 3))).mono (Grew.refl _).drew
    have k2 := HY.out (W0.alloc (.cells #[.int .i64 xu, .int .i64 xr, .int .i64 xa, .int .i64 xf] 3))
    simp only [size_of_alloc] at k2
    have sq := k2.mono (Grew.refl _).drew
    clear k2
    have GZ := Lib.hid (((G0.out.alloc (.cells #[.int .i64 xu, .int .i64 xr, .int .i64 xa, .int .i64 xf] 3)).alloc (.cells #[.int .i64 yu, .int .i64 yr, .int .i64 ya, .int .i64 yf] 3)).drew)
    generalize ((W0.alloc (.cells #[.int .i64 xu, .int .i64 xr, .int .i64 xa, .int .i64 xf] 3)).alloc (.cells #[.int .i64 yu, .int .i64 yr, .int .i64 ya, .int .i64 yf] 3)).drew = WZ at sp sq GZ ⊢
    have SP := Lib.hid sp
    have SQ := Lib.hid sq
    clear sp sq HX HY
    generalize W0.heap.size + 1 = C2 at SP SQ ⊢
    generalize W0.heap.size = C1 at SP SQ ⊢
    go_loopg [7] 4 (fun gg s7 wr => ∃ k : Nat, k ≤ 4 ∧ 4 - k ≤ gg ∧ s7 = .int .i64 k ∧ Aside (Grew WZ wr) ∧ Aside (∀ j (h : j < p.length) (h' : j < q.length), j < k → p[j] = q[j]))
    case atStart => exact ⟨0, by omega, by omega, rfl, (show Aside _ from Grew.refl _), (show Aside _ from fun j h h' h2 => absurd h2 (Nat.not_lt_zero _))⟩
    case round =>
      obtain ⟨k, hk, hgk, rfl, BW, M⟩ := hrel
      by_cases hlt : k < 4
      · have hltz : (k : Int) < 4 := by omega
        have h0z : (0 : Int) ≤ (k : Int) := by omega
        have hkp : k < p.length := by rw [HLX.out]; exact hlt
        have hkq : k < q.length := by rw [HLY.out]; exact hlt
        have c1 := slI_cell SP.out BW.out k hkp
        have c2 := slI_cell SQ.out BW.out k hkq
        have HN : RowKit.Hid (p[k] = q[k] → ∀ j (h : j < p.length) (h' : j < q.length), j < k + 1 → p[j] = q[j]) := fun h j hj hj' h2 => by
          by_cases e : j = k
          · subst e; exact h
          · exact M.out j hj hj' (by omega)
        have HD := Lib.hid (H1.out k hkp hkq M.out)
        generalize p[k] = y at c1 HN HD
        generalize q[k] = z at c2 HN HD
        by_cases he : y = z
        · have he' : (y != z) = false := by simpa using he
          have Hy := Lib.hid (HN.out he)
          clear HN HD he M
          go_wp2
          go_quiet (fail)
          clear c1 c2
          go_wp2
          go_roundg (4 - (k + 1))
          case measure => omega
          case rel => exact ⟨k + 1, by omega, by omega, by go_num, (show Aside _ from BW.out.drewN _), (show Aside _ from Hy.out)⟩
        · have he' : (y != z) = true := by simpa using he
          have hR := HD.out he
          subst hR
          clear HN HD he M H1 H2
          go_wp2
          go_quiet (fail)
          go_wp2
          go_quiet (fail)
          clear c1 c2
          go_wp2
          go_ret
          exact ⟨rfl, GZ.out.trans ((BW.out.drewN _).drewN _)⟩
      · have hltz : ¬ (k : Int) < 4 := by omega
        have hR := H2.out (fun j h h' => M.out j h h' (by have := HLX.out; omega))
        subst hR
        clear H1 H2 M
        go_wp2
        go_ret
        exact ⟨rfl, GZ.out.trans BW.out⟩
  · skip
    have sq := ((HY.out W0).mono ((Grew.refl _).alloc (.cells #[.int .i64 xu, .int .i64 xr, .int .i64 xa, .int .i64 xf] 3))).mono (Grew.refl _).drew
    have k2 := HX.out (W0.alloc (.cells #[.int .i64 yu, .int .i64 yr, .int .i64 ya, .int .i64 yf] 3))
    simp only [size_of_alloc] at k2
    have sp := k2.mono (Grew.refl _).drew
    clear k2
    have GZ := Lib.hid (((G0.out.alloc (.cells #[.int .i64 yu, .int .i64 yr, .int .i64 ya, .int .i64 yf] 3)).alloc (.cells #[.int .i64 xu, .int .i64 xr, .int .i64 xa, .int .i64 xf] 3)).drew)
    generalize ((W0.alloc (.cells #[.int .i64 yu, .int .i64 yr, .int .i64 ya, .int .i64 yf] 3)).alloc (.cells #[.int .i64 xu, .int .i64 xr, .int .i64 xa, .int .i64 xf] 3)).drew = WZ at sp sq GZ ⊢
    have SP := Lib.hid sp
    have SQ := Lib.hid sq
    clear sp sq HX HY
    generalize W0.heap.size + 1 = C2 at SP SQ ⊢
    generalize W0.heap.size = C1 at SP SQ ⊢
    go_loopg [7] 4 (fun gg s7 wr => ∃ k : Nat, k ≤ 4 ∧ 4 - k ≤ gg ∧ s7 = .int .i64 k ∧ Aside (Grew WZ wr) ∧ Aside (∀ j (h : j < p.length) (h' : j < q.length), j < k → p[j] = q[j]))
    case atStart => exact ⟨0, by omega, by omega, rfl, (show Aside _ from Grew.refl _), (show Aside _ from fun j h h' h2 => absurd h2 (Nat.not_lt_zero _))⟩
    case round =>
      obtain ⟨k, hk, hgk, rfl, BW, M⟩ := hrel
      by_cases hlt : k < 4
      · have hltz : (k : Int) < 4 := by omega
        have h0z : (0 : Int) ≤ (k : Int) := by omega
        have hkp : k < p.length := by rw [HLX.out]; exact hlt
        have hkq : k < q.length := by rw [HLY.out]; exact hlt
        have c1 := slI_cell SP.out BW.out k hkp
        have c2 := slI_cell SQ.out BW.out k hkq
        have HN : RowKit.Hid (p[k] = q[k] → ∀ j (h : j < p.length) (h' : j < q.length), j < k + 1 → p[j] = q[j]) := fun h j hj hj' h2 => by
          by_cases e : j = k
          · subst e; exact h
          · exact M.out j hj hj' (by omega)
        have HD := Lib.hid (H1.out k hkp hkq M.out)
        generalize p[k] = y at c1 HN HD
        generalize q[k] = z at c2 HN HD
        by_cases he : y = z
        · have he' : (y != z) = false := by simpa using he
          have Hy := Lib.hid (HN.out he)
          clear HN HD he M
          go_wp2
          go_quiet (fail)
          clear c1 c2
          go_wp2
          go_roundg (4 - (k + 1))
          case measure => omega
          case rel => exact ⟨k + 1, by omega, by omega, by go_num, (show Aside _ from BW.out.drewN _), (show Aside _ from Hy.out)⟩
        · have he' : (y != z) = true := by simpa using he
          have hR := HD.out he
          subst hR
          clear HN HD he M H1 H2
          go_wp2
          go_quiet (fail)
          go_wp2
          go_quiet (fail)
          clear c1 c2
          go_wp2
          go_ret
          exact ⟨rfl, GZ.out.trans ((BW.out.drewN _).drewN _)⟩
      · have hltz : ¬ (k : Int) < 4 := by omega
        have hR := H2.out (fun j h h' => M.out j h h' (by have := HLX.out; omega))
        subst hR
        clear H1 H2 M
        go_wp2
        go_ret
        exact ⟨rfl, GZ.out.trans BW.out⟩
end Go.Proofs.YtfghbendiofbeaaGreatDoor

/- The reference's Check and Right of relations, and its small questions, walked. No condition. -/
namespace Go.Proofs.YtfghbendiofbeaaGreatDoor
open Go.RowKit

set_option maxHeartbeats 2000000 in
theorem refOn (fr un day : Int) (w : World) : Calls Tryz.prog 68 #[.agg #[.int .i64 fr, .int .i64 un], .int .i64 day] w fun e w' => e = .returned (.bool (inF fr un day)) ∧ Grew w w' := by
  unfold inF
  cases a1 : decide (fr ≤ day) <;> cases a2 : decide (day < un)
  all_goals
    go_enter Tryz.func68, Tryz.ntmps68
    go_wp2
    go_ret
    exact ⟨rfl, (Grew.refl w).alloc _⟩
theorem ranged_or (role day : Int) : rangedF role day = if (decide (role < 1) || (decide (4 < role) || (decide (day < 0) || decide (1048575 < day)))) then 2 else 0 := by
  unfold rangedF within
  by_cases h1 : 1 ≤ role <;> by_cases h2 : role ≤ 4 <;> by_cases h3 : 0 ≤ day <;> by_cases h4 : day ≤ 1048575 <;> simp [h1, h2, h3, h4] <;> omega
set_option maxHeartbeats 2000000 in
theorem refAsked (role day : Int) (w : World) : Calls Tryz.prog 62 #[.int .i64 role, .int .i64 day] w fun e w' => e = .returned (.int .i64 (rangedF role day)) ∧ w = w' := by
  rw [ranged_or]
  cases a1 : decide (role < 1) <;> cases a2 : decide (4 < role) <;> cases a3 : decide (day < 0) <;> cases a4 : decide (1048575 < day)
  all_goals
    go_enter Tryz.func62, Tryz.ntmps62
    go_wp2
    go_ret
    exact ⟨rfl, rfl⟩
set_option maxRecDepth 100000 in
set_option maxHeartbeats 8000000 in
theorem refCheck26 (a : List Auth) (l : List Rel) (av lv : Value) (w : World) (ha : SlAu w av a) (hl : SlR w lv l) :
    Calls Tryz.prog 16 #[av, lv] w fun e w' => e = .returned (.tuple #[.int .i64 (relCheck a l).1, .int .i64 (relCheck a l).2]) ∧ Grew w w' := by
  have kR := refRight23 a av w ha
  have HA := Lib.hid ha
  obtain ⟨A, c, rfl, hlc, hc, hr⟩ := hl.open_
  unfold maxLen at hc
  have HR := Lib.hid hr
  clear hr hl ha
  by_cases h0 : AuthRight a
  case neg =>
    have hC : relCheck a l = (-1, 1) := by simp [relCheck, h0]
    rw [hC]
    rw [decide_eq_false h0] at kR
    have KR := Lib.hid kR
    clear kR h0 hC
    go_enter Tryz.func16, Tryz.ntmps16
    go_wp2_with (first | (go_at_call 44; refine KR.out.mono ?_; rintro e w1 ⟨rfl, hg⟩))
    go_ret2
    exact ⟨rfl, hg⟩
  rw [decide_eq_true h0] at kR
  have KR := Lib.hid kR
  by_cases h1 : 256 < l.length
  · have hC : relCheck a l = (-1, 8) := by simp [relCheck, h0, h1]
    rw [hC]
    have h1' : (256 : Int) < (l.length : Int) := by omega
    clear kR h0 hC
    go_enter Tryz.func16, Tryz.ntmps16
    go_wp2_with (first | (go_at_call 44; refine KR.out.mono ?_; rintro e w1 ⟨rfl, hg⟩))
    go_ret2
    exact ⟨rfl, hg⟩
  have h1' : ¬ (256 : Int) < (l.length : Int) := by omega
  have hC : relCheck a l = findBad (relFaultAt a l) l.length 0 := by simp [relCheck, h0, h1]
  rw [hC]
  generalize hF : findBad (relFaultAt a l) l.length 0 = R
  have HFB := Lib.hid hF
  clear kR h0 hC hF h1
  go_enter Tryz.func16, Tryz.ntmps16
  go_wp2_with (first | (go_at_call 44; refine KR.out.mono ?_; rintro e w1 ⟨rfl, hg⟩))
  go_loopg [6] l.length (fun gg s6 wr => ∃ kk : Nat, kk ≤ l.length ∧ l.length - kk ≤ gg ∧ s6 = .int .i64 kk ∧ Aside (Grew w wr) ∧ Aside (∀ i, i < kk → relFaultAt a l i = 0))
  case atStart => exact ⟨0, Nat.zero_le _, by omega, rfl, hg, fun i h => absurd h (Nat.not_lt_zero _)⟩
  case round =>
    obtain ⟨kk, hkk, hgk, rfl, BW, M⟩ := hrel
    clear hg
    by_cases hlt : kk < l.length
    case neg =>
      have hltz : ¬ (kk : Int) < (l.length : Int) := by omega
      have Hm := Lib.hid (HFB.out.symm.trans (findBad_miss _ _ (fun j hj => M.out j (by omega))))
      go_wp2
      go_ret2
      refine ⟨?_, BW.out⟩
      rw [Hm.out]
      rfl
    have hltz : (kk : Int) < (l.length : Int) := by omega
    have h0z : (0 : Int) ≤ (kk : Int) := by omega
    obtain ⟨b, off, rfl, hb, hcell⟩ := HR.out (by omega)
    have HCELL := Lib.hid hcell
    obtain ⟨c0, c1, c2, c3, c4⟩ := hcell wr BW.out kk hlt
    have hfa := relFaultAt_in a l kk hlt
    have hit : relFaultAt a l kk ≠ 0 → R = ((kk : Int), relFaultAt a l kk) := fun h => HFB.out.symm.trans (findBad_hit _ _ kk hlt M.out h)
    rw [hfa] at hit
    have HFA := Lib.hid hfa
    clear hcell hfa
    generalize hy : l[kk] = y at c0 c1 c2 c3 c4 hit HFA
    clear hy
    have kA := fun W (hW : Grew w W) => refOwn26 a y av W (HA.out.mono hW)
    have hFd : ∀ p, relFault a p y = if relAlone a y ≠ 0 then relAlone a y else match p with
      | none => 0
      | some u => if 0 ≤ orderR u y then 5 else if sameR u y = true ∧ y.fr < u.un then 6 else 0 := fun p => rfl
    generalize relAlone a y = al at kA hFd
    have HFD := Lib.hid hFd
    have HIT := Lib.hid hit
    have HY := Lib.hid (refLess · y)
    have HZ := Lib.hid (refSame26 · y)
    unfold Rel.agg at kA
    have KA := Lib.hid kA
    clear kA hFd hit
    obtain ⟨yu, yr, ya, yf, yn⟩ := y
    dsimp only at c0 c1 c2 c3 c4 KA
    go_wp2_with fail
    refine (KA.out _ BW.out).mono ?_
    rintro e w1 ⟨rfl, g1⟩
    have HGW := Lib.hid (BW.out.trans g1)
    have k0 := Gr.cell (keep_cell g1 c0)
    have k1 := Gr.cell (keep_cell g1 c1)
    have k2 := Gr.cell (keep_cell g1 c2)
    have k3 := Gr.cell (keep_cell g1 c3)
    have k4 := Gr.cell (keep_cell g1 c4)
    clear g1 c0 c1 c2 c3 c4
    dsimp only
    by_cases hal : al = 0
    case neg =>
      have hal' : (al != 0) = true := by simpa using hal
      have hfv : relFault a (prevR l kk) ⟨yu, yr, ya, yf, yn⟩ = al := by rw [HFD.out, if_pos hal]
      have Hr := Lib.hid (HIT.out (by rw [hfv]; exact hal))
      have Hf := Lib.hid hfv
      clear hal hfv k0 k1 k2 k3 k4
      go_wp2
      go_ret2
      refine ⟨?_, HGW.out⟩
      rw [Hr.out, Hf.out]
      rfl
    subst hal
    rcases Nat.eq_zero_or_pos kk with hk0 | hkpos
    · subst hk0
      have hfz : relFaultAt a l 0 = 0 := by rw [HFA.out, HFD.out]; simp [prevR]
      have Hf := Lib.hid hfz
      clear hfz HIT k0 k1 k2 k3 k4
      go_wp2
      go_quiet (fail)
      go_wp2
      go_quiet (fail)
      go_wp2
      go_roundg (l.length - 1)
      case measure => omega
      case rel =>
        refine ⟨1, by omega, by omega, by go_num, (show Aside _ from HGW.out.drewN _), (show Aside _ from fun i hi => ?_)⟩
        obtain rfl : i = 0 := by omega
        exact Hf.out
    · have hp1 : kk - 1 < l.length := by omega
      have hpv : prevR l kk = some l[kk - 1] := by rw [prevR, if_neg (by omega), List.getElem?_eq_getElem hp1]
      obtain ⟨d0, d1, d2, d3, d4⟩ := HCELL.out w1 HGW.out (kk - 1) hp1
      have kO := HY.out l[kk - 1]
      have kS := HZ.out l[kk - 1]
      have hfd : relFaultAt a l kk = if 0 ≤ orderR l[kk - 1] ⟨yu, yr, ya, yf, yn⟩ then 5 else if sameR l[kk - 1] ⟨yu, yr, ya, yf, yn⟩ = true ∧ yf < l[kk - 1].un then 6 else 0 := by
        rw [HFA.out, hpv, HFD.out]
        simp
      have hit2 := HIT.out
      rw [← HFA.out] at hit2
      unfold Rel.agg at kO kS
      clear hpv
      generalize l[kk - 1] = z at d0 d1 d2 d3 d4 kO kS hfd
      obtain ⟨zu, zr, za, zf, zn⟩ := z
      dsimp only at d0 d1 d2 d3 d4 kO kS hfd
      have f0 := Gr.cell d0
      have f1 := Gr.cell d1
      have f2 := Gr.cell d2
      have f3 := Gr.cell d3
      have f4 := Gr.cell d4
      clear d0 d1 d2 d3 d4
      have hkz : (0 : Int) < (kk : Int) := by omega
      have hki : (0 : Int) ≤ (kk : Int) - 1 := by omega
      have hki2 : (kk : Int) - 1 < (l.length : Int) := by omega
      have hki3 : (1 : Int) ≤ (kk : Int) := by omega
      have hkt : ((kk : Int) - 1).toNat = kk - 1 := by omega
      have HMK : RowKit.Hid (relFaultAt a l kk = 0 → ∀ i, i < kk + 1 → relFaultAt a l i = 0) := fun h i hi => by
        by_cases e : i = kk
        · subst e; exact h
        · exact M.out i (by omega)
      generalize relFaultAt a l kk = fk at hfd hit2 HMK
      generalize orderR ⟨zu, zr, za, zf, zn⟩ ⟨yu, yr, ya, yf, yn⟩ = oo at kO hfd
      generalize sameR ⟨zu, zr, za, zf, zn⟩ ⟨yu, yr, ya, yf, yn⟩ = ss at kS hfd
      have hoo : decide (oo < 0) = !decide (0 ≤ oo) := by rw [Bool.eq_iff_iff]; simp
      rw [hoo] at kO
      have KO := Lib.hid kO
      have KS := Lib.hid kS
      have HFK := Lib.hid hfd
      have HT2 := Lib.hid hit2
      clear kO kS hfd hit2 HFA HFD HIT HY HZ KA M hoo
      have hwr : IntKind.i64.wrap ((kk : Int) - 1) = (kk : Int) - 1 := IntWalk.i64_in _ (by omega)
      by_cases a6 : 0 ≤ oo
      · have hfk : fk = 5 := by rw [HFK.out]; simp [a6]
        have Hr := Lib.hid (HT2.out (by rw [hfk]; decide))
        have Hf := Lib.hid hfk
        have KO' := Lib.hid (show ∀ W, _ from fun W => by have := KO.out W; rw [decide_eq_true a6] at this; exact this)
        clear hfk KO a6
        go_wp2_with fail
        refine region_gr w1 (by kernel_rfl) (by kernel_rfl) (Grew.refl _) ?_
        repeat (first | go_big_quiet_step ((go_at_call 46; exact Gr.calls _ (KO'.out _))) | quiet_step ((go_at_call 46; exact Gr.calls _ (KO'.out _))))
        refine wpQuiet_nil ?_
        intro _ hw'
        obtain ⟨wi, rfl⟩ := hw'
        have HWI := Lib.hid wi.g
        clear hwr f0 f1 f2 f3 f4 k0 k1 k2 k3 k4
        go_wp2
        go_ret2
        refine ⟨?_, HGW.out.trans HWI.out⟩
        rw [Hr.out, Hf.out]
        rfl
      · have hfk : fk = if ss = true ∧ yf < zn then 6 else 0 := by rw [HFK.out]; simp [a6]
        have HFK2 := Lib.hid hfk
        have KO' := Lib.hid (show ∀ W, _ from fun W => by have := KO.out W; rw [decide_eq_false a6] at this; exact this)
        clear hfk a6 HFK KO
        go_wp2_with fail
        refine region_gr w1 (by kernel_rfl) (by kernel_rfl) (Grew.refl _) ?_
        repeat (first | go_big_quiet_step ((go_at_call 46; exact Gr.calls _ (KO'.out _))) | quiet_step ((go_at_call 46; exact Gr.calls _ (KO'.out _))))
        refine wpQuiet_nil ?_
        intro _ hw'
        obtain ⟨wi, rfl⟩ := hw'
        have HWI := Lib.hid wi.g
        have hss : (ss = true ∧ yf < zn) ∨ ss = false ∨ (ss = true ∧ ¬ yf < zn) := by cases ss <;> by_cases r : yf < zn <;> simp [r]
        rcases hss with ⟨rfl, r⟩ | rfl | ⟨rfl, r⟩
        · have hfk : fk = 6 := by rw [HFK2.out]; simp [r]
          have Hr := Lib.hid (HT2.out (by rw [hfk]; decide))
          have Hf := Lib.hid hfk
          clear hfk
          go_wp2_with fail
          refine region_gr w1 (by kernel_rfl) (by kernel_rfl) HWI.out ?_
          repeat (first | go_big_quiet_step ((go_at_call 47; exact Gr.calls _ (KS.out _))) | quiet_step ((go_at_call 47; exact Gr.calls _ (KS.out _))))
          refine wpQuiet_nil ?_
          intro _ hw'
          obtain ⟨wj, rfl⟩ := hw'
          have HWJ := Lib.hid wj.g
          clear hwr f0 f1 f2 f3 f4 k0 k1 k2 k3 k4
          go_wp2
          go_ret2
          refine ⟨?_, HGW.out.trans HWJ.out⟩
          rw [Hr.out, Hf.out]
          rfl
        · have hfk : fk = 0 := by rw [HFK2.out]; simp
          have Hf := Lib.hid (HMK.out hfk)
          clear hfk
          go_wp2_with fail
          refine region_gr w1 (by kernel_rfl) (by kernel_rfl) HWI.out ?_
          repeat (first | go_big_quiet_step ((go_at_call 47; exact Gr.calls _ (KS.out _))) | quiet_step ((go_at_call 47; exact Gr.calls _ (KS.out _))))
          refine wpQuiet_nil ?_
          intro _ hw'
          obtain ⟨wj, rfl⟩ := hw'
          have HWJ := Lib.hid wj.g
          clear hwr f0 f1 f2 f3 f4 k0 k1 k2 k3 k4
          go_wp2
          go_roundg (l.length - (kk + 1))
          case measure => omega
          case rel => exact ⟨kk + 1, by omega, by omega, by go_num, (show Aside _ from HGW.out.trans HWJ.out), (show Aside _ from Hf.out)⟩
        · have r' : decide (yf < zn) = false := by simpa using r
          have hfk : fk = 0 := by rw [HFK2.out]; simp [r]
          have Hf := Lib.hid (HMK.out hfk)
          clear hfk r
          go_wp2_with fail
          refine region_gr w1 (by kernel_rfl) (by kernel_rfl) HWI.out ?_
          repeat (first | go_big_quiet_step ((go_at_call 47; exact Gr.calls _ (KS.out _))) | quiet_step ((go_at_call 47; exact Gr.calls _ (KS.out _))))
          refine wpQuiet_nil ?_
          intro _ hw'
          obtain ⟨wj, rfl⟩ := hw'
          have HWJ := Lib.hid wj.g
          clear hwr f0 f1 f2 f3 f4 k0 k1 k2 k3 k4
          go_wp2
          go_roundg (l.length - (kk + 1))
          case measure => omega
          case rel => exact ⟨kk + 1, by omega, by omega, by go_num, (show Aside _ from HGW.out.trans HWJ.out), (show Aside _ from Hf.out)⟩
theorem asks_bool (a : List Auth) (l : List Rel) : decide (asksF a l = 0) = ((relCheck a l).2 == 0) := by
  unfold asksF
  by_cases h : (relCheck a l).2 = 0 <;> simp [h]
theorem refRight26 (a : List Auth) (l : List Rel) (av lv : Value) (w : World) (ha : SlAu w av a) (hl : SlR w lv l) : Calls Tryz.prog 58 #[av, lv] w fun e w' => e = .returned (.bool (decide (asksF a l = 0))) ∧ Grew w w' := by
  have kC := refCheck26 a l av lv w ha hl
  rw [asks_bool]
  generalize (relCheck a l).1 = n at kC ⊢
  generalize (relCheck a l).2 = m at kC ⊢
  have KC := Lib.hid kC
  clear kC ha hl
  go_enter Tryz.func58, Tryz.ntmps58
  go_wp2_with fail
  refine KC.out.mono ?_
  rintro e w1 ⟨rfl, g1⟩
  have HG := Lib.hid g1
  clear g1
  dsimp only
  go_wp2
  go_ret
  exact ⟨rfl, HG.out⟩
end Go.Proofs.YtfghbendiofbeaaGreatDoor

/- The frame that every statement of this seat needs: what a call that returns true and leaves all older blocks alone gives for the row; the witness's world, in which the listed tables lie; what the library's own variables hold. No condition. -/
namespace Go.Proofs.YtfghbendiofbeaaGreatDoor
open Go.ChangeShapes Go.WideShapes Go.ChangeAt Go.RowKit

theorem own : ownKnob Tryz.prog.godebug = none := by kernel_rfl
theorem laidOut : laidOutB Tryz.prog = true := by kernel_rfl

/-- Arguments read as before where nothing older has turned. -/
theorem trodAll_stays {H : Type} {enc : TypeId × Value → H} {P : Program} (hl : laidOutB P = true) {W W' : World} (hb : Below W.heap.size W W') : ∀ {ts : List TypeId} {vs : List Value} {ds : List (DataW H)} {ps : List MemPlace},
    (ts.all fun t => P.readableRec t && decide (t < P.types.size)) = true → DataW.TrodAll enc P W 0 (fun _ => true) true ts vs ds ps → (∀ x ∈ ps, x.block < W.heap.size) → DataW.TrodAll enc P W' 0 (fun b => decide (b < W.heap.size)) true ts vs ds ps
  | [], _, _, _, _, h, _ => by
    obtain ⟨rfl, rfl, rfl⟩ := trodAll_nil h
    exact trodAll_mk0
  | t :: ts, _, _, _, hr, h, hlt => by
    obtain ⟨v, vs, d, ds, p, q, rfl, rfl, rfl, h1, h2⟩ := trodAll_cons h
    simp only [List.all_cons, Bool.and_eq_true, decide_eq_true_eq] at hr
    exact trodAll_cons_mk (Below.trod hl hr.1.1 hr.1.2 h1 hb fun x hx => hlt x (List.mem_append_left _ hx)) (trodAll_stays hl hb (by simpa using hr.2) h2 fun x hx => hlt x (List.mem_append_right _ hx))

/-- What the row asks of a call that returned true and left everything older as it lay. -/
theorem post_true {H : Type} {enc : TypeId × Value → H} {P : Program} (hl : laidOutB P = true) {f : Func} {s : ChangeSpec} {W W' : World} {args : Array Value} {ds gs : List (DataW H)} {before : List MemPlace} {tb : TypeId}
    (hv : s.vars = []) (hr : f.resultTypes = #[tb]) (hb : P.underlying tb = some .bool) (hp : (f.params.toList.all fun t => P.readableRec t && decide (t < P.types.size)) = true)
    (hW : DataW.Whole enc P f.params.toList s.vars false W args.toList ds gs before) (hfn : s.fn H ds = { results := [.lit (.bool true)], args := ds }) (hg : Below W.heap.size W W') :
    s.post enc P f false true false false W args (.bool true) W' := by
  have hlt := hW.lt
  have hW' := hW
  obtain ⟨p, q, hA, hV, rfl, _, _⟩ := hW
  have hV' := hV
  rw [hv] at hV'
  obtain ⟨rfl, rfl⟩ := trodVars_none hV'
  simp only [List.append_nil] at hlt hW'
  refine ⟨ds, [], p, [], p, [], hW', ?_, ?_, ?_, hg.frame _, fun h => by cases h⟩
  · rw [hr, List.append_nil, hfn]
    exact trodAll_mk1 (shut_bool hb true)
  · rw [List.append_nil, hfn]
    exact trodAll_stays hl hg hp hA hlt
  · rw [List.append_nil, hfn, hv]
    rfl
/-- The witness's world: the settled one with the tables laid. -/
noncomputable def base0R (os : Os) : World := World.holding Tryz.prog os ⟨#[], #[], []⟩
noncomputable def worldLaid (os : Os) : World :=
  { base0R os with heap := ((((base0R os).heap.modify 1 fun
      | .cells _ t frozen => .cells #[.int .u8 0, .int .u8 1, .int .u8 28, .int .u8 2, .int .u8 29, .int .u8 14, .int .u8 24, .int .u8 3, .int .u8 30, .int .u8 22, .int .u8 20, .int .u8 15, .int .u8 25, .int .u8 17, .int .u8 4, .int .u8 8, .int .u8 31, .int .u8 27, .int .u8 13, .int .u8 23, .int .u8 21, .int .u8 19, .int .u8 16, .int .u8 7, .int .u8 26, .int .u8 12, .int .u8 18, .int .u8 6, .int .u8 11, .int .u8 5, .int .u8 10, .int .u8 9] t frozen
      | o => o).modify 2 fun
      | .cells _ t frozen => .cells #[.int .u8 0, .int .u8 1, .int .u8 56, .int .u8 2, .int .u8 57, .int .u8 49, .int .u8 28, .int .u8 3, .int .u8 61, .int .u8 58, .int .u8 42, .int .u8 50, .int .u8 38, .int .u8 29, .int .u8 17, .int .u8 4, .int .u8 62, .int .u8 47, .int .u8 59, .int .u8 36, .int .u8 45, .int .u8 43, .int .u8 51, .int .u8 22, .int .u8 53, .int .u8 39, .int .u8 33, .int .u8 30, .int .u8 24, .int .u8 18, .int .u8 12, .int .u8 5, .int .u8 63, .int .u8 55, .int .u8 48, .int .u8 27, .int .u8 60, .int .u8 41, .int .u8 37, .int .u8 16, .int .u8 46, .int .u8 35, .int .u8 44, .int .u8 21, .int .u8 52, .int .u8 32, .int .u8 23, .int .u8 11, .int .u8 54, .int .u8 26, .int .u8 40, .int .u8 15, .int .u8 34, .int .u8 20, .int .u8 31, .int .u8 10, .int .u8 25, .int .u8 14, .int .u8 19, .int .u8 9, .int .u8 13, .int .u8 8, .int .u8 7, .int .u8 6] t frozen
      | o => o).modify 0 fun
      | .cells _ t frozen => .cells #[.int .u64 1, .int .u64 10, .int .u64 100, .int .u64 1000, .int .u64 10000, .int .u64 100000, .int .u64 1000000, .int .u64 10000000, .int .u64 100000000, .int .u64 1000000000, .int .u64 10000000000, .int .u64 100000000000, .int .u64 1000000000000, .int .u64 10000000000000, .int .u64 100000000000000, .int .u64 1000000000000000, .int .u64 10000000000000000, .int .u64 100000000000000000, .int .u64 1000000000000000000, .int .u64 10000000000000000000] t frozen
      | o => o) }
def laidAll : List (String × DataW Unit) := [("math/bits.deBruijn32tab", Rows.laid_math_bits_deBruijn32tab), ("math/bits.deBruijn64tab", Rows.laid_math_bits_deBruijn64tab), ("internal/strconv.uint64pow10", Rows.laid_internal_strconv_uint64pow10)]
theorem pow_only : (laidAll.filter fun x => x.1 == "internal/strconv.uint64pow10") = [("internal/strconv.uint64pow10", Lib.tabData .u64 Lib.pow10Tab)] := by kernel_rfl
/-- What the library's own variables hold. -/
theorem env_of {W : World} (h1 : laidMetH Tryz.prog laidAll W) (h2 : W.ShapedOpen Tryz.prog) : Env W := by
  refine ⟨cell_of_shapedOpen_int (g := 3) (t := 3) (zero := #[.int .i64 0]) h2 (of_decide_eq_true (by kernel_rfl)) (by kernel_rfl) rfl (by kernel_rfl) (by kernel_rfl) Tryz.underlying3, ?_⟩
  have h := h1.filter (fun x => x.1 == "internal/strconv.uint64pow10")
  rw [pow_only] at h
  have h3 := (laidMetH_iff.1 h).1
  have h4 : laidMet Tryz.prog [("internal/strconv.uint64pow10", Lib.tabData .u64 Lib.pow10Tab)] W := h3
  exact Lib.tabIs_of_head (g := 0) (t := 170) (e := 148) (n := 20) (by kernel_rfl) (by kernel_rfl) Tryz.underlying170 Tryz.underlying148 (by kernel_rfl) (by kernel_rfl) h4
end Go.Proofs.YtfghbendiofbeaaGreatDoor
