/- Lemmas on what the functions of the program and of the library compute: RA5, RB1, RB2, RB3, RC2, RC3. The conditions stand at each. -/
import Derived.Test.YtfghbendiofbeaaGreatDoorQ28
import Derived.Test.YtfghbendiofbeaaGreatDoorQ10
import Derived.Deep.RegionHeld3
import Derived.Test.YtfghbendiofbeaaGreatDoorQ16
import Derived.Test.YtfghbendiofbeaaGreatDoorQ11
/- The reference's Check and Right of authorities, walked. No condition. -/
namespace Go.Proofs.YtfghbendiofbeaaGreatDoor
open Go.RowKit

set_option maxHeartbeats 4000000 in
theorem refCheck23 (l : List Auth) (v : Value) (w : World) (hv : SlAu w v l) : Calls Tryz.prog 83 #[v] w (RetIff2 (AuthRight l) w) := by
  have HO := Lib.hid (fun i (hi : i < l.length) W (hW : Grew w W) => refOwn l i hi v W (hv.mono hW))
  have HX := Lib.hid (fun (a : Auth) nv xv W (hW : Grew w W) (h1 : SlN w nv a.names) (h2 : SlI w xv a.next) => refNext l a v nv xv W (hv.mono hW) (h1.mono hW) (h2.mono hW))
  have HD : RowKit.Hid (AuthRight l ↔ l.length ≤ 64 ∧ (∀ i (h : i < l.length), AuAlone l i h) ∧ ∀ i (h : i < l.length), SuccOk l l[i]) := Iff.rfl
  generalize AuthRight l = PR at HD ⊢
  obtain ⟨A, c, rfl, hlc, hc, hr⟩ := hv.open_
  unfold maxLen at hc
  have HR := Lib.hid hr
  clear hr hv
  by_cases h64 : 64 < l.length
  · have h64' : (64 : Int) < (l.length : Int) := by omega
    have Hn : RowKit.Hid (¬ PR) := fun h => by have := (HD.out.1 h).1; omega
    clear h64
    go_enter Tryz.func83, Tryz.ntmps83
    go_wp2
    go_ret2
    exact RetIff2.no _ 8 (by decide) Hn.out (Grew.refl w)
  have h64' : ¬ (64 : Int) < (l.length : Int) := by omega
  go_enter Tryz.func83, Tryz.ntmps83
  go_wp2
  go_loopg [4] l.length (fun gg s wr => ∃ k : Nat, k ≤ l.length ∧ l.length - k ≤ gg ∧ s = .int .i64 k ∧ Aside (Grew w wr) ∧ Aside (∀ j (h : j < l.length), j < k → AuAlone l j h))
  case atStart => exact ⟨0, by omega, by omega, rfl, (show Aside _ from Grew.refl _), (show Aside _ from fun j h h2 => absurd h2 (Nat.not_lt_zero _))⟩
  case round =>
    obtain ⟨k, hk, hgk, rfl, BW, M⟩ := hrel
    by_cases hlt : k < l.length
    · have hltz : (k : Int) < (l.length : Int) := by omega
      have kO := HO.out k hlt wr BW.out
      have HN : RowKit.Hid (¬ AuAlone l k hlt → ¬ PR) := fun h h2 => h ((HD.out.1 h2).2.1 k hlt)
      have HY : RowKit.Hid (AuAlone l k hlt → ∀ j (h : j < l.length), j < k + 1 → AuAlone l j h) := fun h j hj h2 => by
        by_cases e : j = k
        · subst e; exact h
        · exact M.out j hj (by omega)
      generalize AuAlone l k hlt = PK at kO HN HY
      have KO := Lib.hid kO
      clear kO
      go_wp2_with fail
      refine KO.out.mono ?_
      rintro e w1 ⟨n, rfl, hn, g1⟩
      have HG := Lib.hid (BW.out.trans g1)
      have HNN := Lib.hid hn
      clear g1 KO hn
      dsimp only
      by_cases hz : n = 0
      case neg =>
        have hz' : (n != 0) = true := by simpa using hz
        have Hz := Lib.hid hz
        have Hn := Lib.hid (HN.out (fun h => hz (HNN.out.2 h)))
        clear hz
        go_wp2
        go_ret2
        exact RetIff2.no _ n Hz.out Hn.out HG.out
      · subst hz
        have Hy := Lib.hid (HY.out (HNN.out.1 rfl))
        go_wp2
        go_roundg (l.length - (k + 1))
        case measure => omega
        case rel => exact ⟨k + 1, by omega, by omega, by go_num, (show Aside _ from HG.out), (show Aside _ from Hy.out)⟩
    have hltz : ¬ (k : Int) < (l.length : Int) := by omega
    have HALL : RowKit.Hid (∀ j (h : j < l.length), AuAlone l j h) := fun j h => M.out j h (by omega)
    clear M
    go_wp2
    go_loopg [6] l.length (fun gg s wr => ∃ k : Nat, k ≤ l.length ∧ l.length - k ≤ gg ∧ s = .int .i64 k ∧ Aside (Grew w wr) ∧ Aside (∀ j (h : j < l.length), j < k → SuccOk l l[j]))
    case atStart => exact ⟨0, by omega, by omega, rfl, (show Aside _ from BW.out), (show Aside _ from fun j h h2 => absurd h2 (Nat.not_lt_zero _))⟩
    case round =>
      obtain ⟨k, hk, hgk, rfl, BW, M⟩ := hrel
      by_cases hlt : k < l.length
      · have hltz : (k : Int) < (l.length : Int) := by omega
        have h0z : (0 : Int) ≤ (k : Int) := by omega
        obtain ⟨b, off, rfl, hb, hcell⟩ := HR.out (by omega)
        obtain ⟨nv, xv, hn, hx, hcl⟩ := hcell k hlt
        obtain ⟨c0, c1, c2, c3, c4, c5⟩ := hcl _ BW.out
        have kX := HX.out l[k] nv xv _ BW.out hn hx
        have HN : RowKit.Hid (¬ SuccOk l l[k] → ¬ PR) := fun h h2 => h ((HD.out.1 h2).2.2 k hlt)
        have HY : RowKit.Hid (SuccOk l l[k] → ∀ j (h : j < l.length), j < k + 1 → SuccOk l l[j]) := fun h j hj h2 => by
          by_cases e : j = k
          · subst e; exact h
          · exact M.out j hj (by omega)
        generalize SuccOk l l[k] = PK at kX HN HY
        generalize l[k] = y at kX c0 c1 c2 c3 c4 c5 hn hx
        obtain ⟨yi, yk, yf, yu, yn, yx⟩ := y
        dsimp only at kX c0 c1 c2 c3 c4 c5 hn hx
        obtain ⟨An, cn, rfl, -, -, -⟩ := hn.open_
        obtain ⟨Ax, cx, rfl, -, -, -⟩ := hx.open_
        have KX := Lib.hid kX
        clear kX hcell hcl hn hx
        go_wp2_with fail
        refine KX.out.mono ?_
        rintro e w1 ⟨n, rfl, hn, g1⟩
        have HG := Lib.hid (BW.out.trans g1)
        have HNN := Lib.hid hn
        clear g1 KX hn c0 c1 c2 c3 c4 c5
        dsimp only
        by_cases hz : n = 0
        case neg =>
          have hz' : (n != 0) = true := by simpa using hz
          have Hz := Lib.hid hz
          have Hn := Lib.hid (HN.out (fun h => hz (HNN.out.2 h)))
          clear hz
          go_wp2
          go_ret2
          exact RetIff2.no _ n Hz.out Hn.out HG.out
        · subst hz
          have Hy := Lib.hid (HY.out (HNN.out.1 rfl))
          go_wp2
          go_roundg (l.length - (k + 1))
          case measure => omega
          case rel => exact ⟨k + 1, by omega, by omega, by go_num, (show Aside _ from HG.out), (show Aside _ from Hy.out)⟩
      have hltz : ¬ (k : Int) < (l.length : Int) := by omega
      have Hy := Lib.hid (HD.out.2 ⟨by omega, HALL.out, fun j h => M.out j h (by omega)⟩)
      clear M
      go_wp2
      go_ret2
      exact RetIff2.yes _ Hy.out BW.out
theorem refRight23 (l : List Auth) (v : Value) (w : World) (hv : SlAu w v l) : Calls Tryz.prog 44 #[v] w fun e w' => e = .returned (.bool (decide (AuthRight l))) ∧ Grew w w' := by
  have KC := Lib.hid (refCheck23 l v w hv)
  have HD : RowKit.Hid (decide (AuthRight l) = true ↔ AuthRight l) := decide_eq_true_iff
  generalize decide (AuthRight l) = q at HD ⊢
  generalize AuthRight l = P at KC HD
  clear hv
  go_enter Tryz.func44, Tryz.ntmps44
  go_wp2_with fail
  refine KC.out.mono ?_
  rintro e w1 ⟨i, n, rfl, hn, g1⟩
  have HG := Lib.hid g1
  have hq : (n == 0) = q := by rw [Bool.eq_iff_iff, HD.out, beq_iff_eq]; exact hn
  clear g1 hn KC HD
  dsimp only
  go_wp2
  go_ret
  exact ⟨by first | exact ret_bool hq | rfl, HG.out⟩
end Go.Proofs.YtfghbendiofbeaaGreatDoor

/- The reference's small functions on relations, walked. No condition. -/
namespace Go.Proofs.YtfghbendiofbeaaGreatDoor
open Go.RowKit

def formed6 (x : Rel) : Bool := within x.unit 1 1073741824 && (within x.role 1 4 && spansF x.fr x.un)
set_option maxHeartbeats 2000000 in
theorem refFormed (x : Rel) (w : World) : Calls Tryz.prog 51 #[x.agg] w fun e w' => e = .returned (.bool (formed6 x)) ∧ Grew w w' := by
  have ks := refSpan x.fr x.un
  unfold formed6 within
  generalize spansF x.fr x.un = q at ks ⊢
  obtain ⟨xu, xr, xa, xf, xn⟩ := x
  unfold Rel.agg
  dsimp only at ks ⊢
  have KS := Lib.hid ks
  clear ks
  cases a1 : decide (1 ≤ xu) <;> cases a2 : decide (xu ≤ 1073741824) <;> cases a3 : decide (1 ≤ xr) <;> cases a4 : decide (xr ≤ 4)
  all_goals
    go_enter Tryz.func51, Tryz.ntmps51
    go_wp2_with (first | ((with_reducible refine (KS.out _).mono ?_); rintro e w1 ⟨rfl, g1⟩))
    go_ret
    first | exact ⟨rfl, (Grew.refl w).alloc _⟩ | exact ⟨by simp, ((Grew.refl w).alloc _).trans g1⟩
theorem relAlone6 (a : List Auth) (x : Rel) : relAlone a x = if formed6 x then whoFault (auFind a x.auth) x.role x.fr x.un else 2 := rfl
set_option maxHeartbeats 4000000 in
theorem refOwn26 (a : List Auth) (x : Rel) (v : Value) (w : World) (hv : SlAu w v a) : Calls Tryz.prog 45 #[v, x.agg] w fun e w' => e = .returned (.int .i64 (relAlone a x)) ∧ Grew w w' := by
  have kF := refFormed x
  have kI := fun W (hW : Grew w W) => refFind a x.auth v W (hv.mono hW)
  rw [relAlone6]
  generalize formed6 x = q at kF ⊢
  generalize auFind a x.auth = O at kI ⊢
  obtain ⟨A1, c1, rfl, -, -, -⟩ := hv.open_
  obtain ⟨xu, xr, xa, xf, xn⟩ := x
  unfold Rel.agg at kF ⊢
  dsimp only at kF kI ⊢
  have KF := Lib.hid kF
  have KI := Lib.hid kI
  clear kF kI hv
  cases q
  · simp only [Bool.false_eq_true, if_false]
    go_enter Tryz.func45, Tryz.ntmps45
    go_wp2_with fail
    refine (KF.out _).mono ?_
    rintro e w1 ⟨rfl, g1⟩
    dsimp only
    go_wp2
    go_ret
    exact ⟨rfl, ((Grew.refl w).alloc _).trans g1⟩
  simp only [if_true]
  unfold FindEnd at KI
  cases O with
  | none =>
    go_enter Tryz.func45, Tryz.ntmps45
    go_wp2_with fail
    refine (KF.out _).mono ?_
    rintro e w1 ⟨rfl, g1⟩
    have b2 := new_cell g1 2 _ rfl
    have G1 := Lib.hid (((Grew.refl w).alloc _).trans g1)
    clear g1
    dsimp only
    go_wp2_with fail
    refine (KI.out _ G1.out).mono ?_
    rintro e w2 ⟨B1, m1, e1, B2, m2, e2, rfl, g2⟩
    simp only [Option.getD_none, Option.isSome_none, au0]
    go_wp2
    go_ret
    exact ⟨rfl, (G1.out.trans g2).alloc _⟩
  | some y =>
    obtain ⟨yi, yk, yf, yu, yn, yx⟩ := y
    simp only [Option.getD_some, Option.isSome_some] at KI
    unfold whoFault
    dsimp only
    have hd : (if xr ≠ 3 ∧ (yk = 3 ∨ ¬ (yf ≤ xf ∧ xn ≤ yu)) then (10 : Int) else 0) = if (xr != 3) && ((yk == 3) || (decide (xf < yf) || decide (yu < xn))) then 10 else 0 := by
      congr 1
      simp only [ne_eq, eq_iff_iff, Bool.and_eq_true, bne_iff_ne, Bool.or_eq_true, beq_iff_eq, decide_eq_true_eq]
      omega
    rw [hd]
    clear hd
    cases a1 : (xr != 3) <;> cases a2 : (yk == 3) <;> cases a3 : decide (xf < yf) <;> cases a4 : decide (yu < xn)
    all_goals
      go_enter Tryz.func45, Tryz.ntmps45
      go_wp2_with fail
      refine (KF.out _).mono ?_
      rintro e w1 ⟨rfl, g1⟩
      have b2 := new_cell g1 2 _ rfl
      have H1 := Lib.hid g1
      have G1 := Lib.hid (((Grew.refl w).alloc _).trans g1)
      clear g1
      dsimp only
      go_wp2_with fail
      refine (KI.out _ G1.out).mono ?_
      rintro e w2 ⟨B1, m1, e1, B2, m2, e2, rfl, g2⟩
      have H2 := Lib.hid ((H1.out.trans g2).alloc (.cells #[.int .i64 yi, .int .i64 yk, .int .i64 yf, .int .i64 yu, .slice B1 m1 e1, .slice B2 m2 e2] 72))
      have d1 := new_cell H2.out 1 _ rfl
      have d3 := new_cell H2.out 3 _ rfl
      have d4 := new_cell H2.out 4 _ rfl
      have G2 := Lib.hid ((G1.out.trans g2).alloc (.cells #[.int .i64 yi, .int .i64 yk, .int .i64 yf, .int .i64 yu, .slice B1 m1 e1, .slice B2 m2 e2] 72))
      clear g2 b2
      dsimp only
      go_wp2
      go_ret
      exact ⟨rfl, G2.out⟩
set_option maxHeartbeats 2000000 in
theorem refSame26 (x y : Rel) (w : World) : Calls Tryz.prog 47 #[x.agg, y.agg] w fun e w' => e = .returned (.bool (sameR x y)) ∧ Grew w w' := by
  unfold sameR
  obtain ⟨xu, xr, xa, xf, xn⟩ := x
  obtain ⟨yu, yr, ya, yf, yn⟩ := y
  unfold Rel.agg
  dsimp only
  cases a1 : (xu == yu) <;> cases a2 : (xr == yr) <;> cases a3 : (xa == ya)
  all_goals
    go_enter Tryz.func47, Tryz.ntmps47
    go_wp2
    go_ret
    exact ⟨rfl, ((Grew.refl w).alloc _).alloc _⟩
end Go.Proofs.YtfghbendiofbeaaGreatDoor

/- The reference's order of relations, walked. No condition. -/
namespace Go.Proofs.YtfghbendiofbeaaGreatDoor
open Go.RowKit

def lessF : List Int → List Int → Bool
  | x :: p, y :: q => if x = y then lessF p q else decide (x < y)
  | _, _ => false
theorem lessF_hit : ∀ (p q : List Int) (k : Nat) (hp : k < p.length) (hq : k < q.length), (∀ j (h : j < p.length) (h' : j < q.length), j < k → p[j] = q[j]) → p[k] ≠ q[k] → lessF p q = decide (p[k] < q[k])
  | [], _, _, hp, _, _, _ => absurd hp (Nat.not_lt_zero _)
  | _ :: _, [], _, _, hq, _, _ => absurd hq (Nat.not_lt_zero _)
  | x :: p, y :: q, 0, _, _, _, hn => by simp only [List.getElem_cons_zero] at hn ⊢; rw [lessF, if_neg hn]
  | x :: p, y :: q, k + 1, hp, hq, h, hn => by
    have h0 : x = y := h 0 (by simp) (by simp) (by omega)
    simp only [List.getElem_cons_succ] at hn ⊢
    rw [lessF, if_pos h0]
    exact lessF_hit p q k _ _ (fun j hj hj' hjk => h (j + 1) (by simpa using hj) (by simpa using hj') (by omega)) hn
theorem lessF_miss : ∀ (p q : List Int), p.length = q.length → (∀ j (h : j < p.length) (h' : j < q.length), p[j] = q[j]) → lessF p q = false
  | [], [], _, _ => rfl
  | [], _ :: _, hl, _ => by simp at hl
  | _ :: _, [], hl, _ => by simp at hl
  | x :: p, y :: q, hl, h => by
    have h0 : x = y := h 0 (by simp) (by simp)
    rw [lessF, if_pos h0]
    exact lessF_miss p q (by simpa using hl) (fun j hj hj' => h (j + 1) (by simpa using hj) (by simpa using hj'))
theorem size_of_alloc (w : World) (o : Obj) : (w.alloc o).heap.size = w.heap.size + 1 := by simp
theorem held8 (w1 W : World) {p0 p1 p2 p3 q0 q1 q2 q3 : Addr} {x0 x1 x2 x3 y0 y1 y2 y3 : Value} (a0 : w1.cell? p0 = some x0) (a1 : w1.cell? p1 = some x1) (a2 : w1.cell? p2 = some x2) (a3 : w1.cell? p3 = some x3) (c0 : w1.cell? q0 = some y0) (c1 : w1.cell? q1 = some y1) (c2 : w1.cell? q2 = some y2) (c3 : w1.cell? q3 = some y3) (g : Grew w1 W) :
    W.cell? p0 = some x0 ∧ W.cell? p1 = some x1 ∧ W.cell? p2 = some x2 ∧ W.cell? p3 = some x3 ∧ W.cell? q0 = some y0 ∧ W.cell? q1 = some y1 ∧ W.cell? q2 = some y2 ∧ W.cell? q3 = some y3 := ⟨keep_cell g a0, keep_cell g a1, keep_cell g a2, keep_cell g a3, keep_cell g c0, keep_cell g c1, keep_cell g c2, keep_cell g c3⟩
def keyR (x : Rel) : List Int := [x.unit, x.role, x.auth, x.fr]
theorem less_order (x y : Rel) : lessF (keyR x) (keyR y) = decide (orderR x y < 0) := by
  rw [Bool.eq_iff_iff, decide_eq_true_eq, orderR_lt]
  unfold keyR ltR
  simp only [lessF]
  by_cases h1 : x.unit = y.unit <;> by_cases h2 : x.role = y.role <;> by_cases h3 : x.auth = y.auth <;> by_cases h4 : x.fr = y.fr <;> simp [h1, h2, h3, h4]
theorem slI_cell {W W' : World} {b n c : Nat} {l : List Int} (h : SlI W (.slice (some ⟨b, 0, none⟩) n c) l) (g : Grew W W') (k : Nat) (hk : k < l.length) : W'.cell? ⟨b, k, none⟩ = some (.int .i64 l[k]) := by
  obtain ⟨A, d, hv, _, _, hr⟩ := h.open_
  obtain ⟨rfl, rfl, rfl⟩ := Value.slice.inj hv
  obtain ⟨b', off, hA, _, hc⟩ := hr (by omega)
  obtain ⟨rfl, rfl⟩ : b' = b ∧ off = 0 := by cases hA; exact ⟨rfl, rfl⟩
  have := hc W' g k hk
  rw [Nat.zero_add] at this
  exact this
set_option maxHeartbeats 8000000 in
set_option maxRecDepth 100000 in
theorem refLess (x y : Rel) (w : World) : Calls Tryz.prog 46 #[x.agg, y.agg] w fun e w' => e = .returned (.bool (decide (orderR x y < 0))) ∧ Grew w w' := by
  rw [← less_order]
  have hx0 := fun W => Rd.fresh W 3 1 4 [.int .i64 x.unit, .int .i64 x.role, .int .i64 x.auth, .int .i64 x.fr] rfl (by decide)
  have hy0 := fun W => Rd.fresh W 3 1 4 [.int .i64 y.unit, .int .i64 y.role, .int .i64 y.auth, .int .i64 y.fr] rfl (by decide)
  have hx1 : ∀ W : World, SlI (W.alloc (.cells #[.int .i64 x.unit, .int .i64 x.role, .int .i64 x.auth, .int .i64 x.fr] 3)) (.slice (some ⟨W.heap.size, 0, none⟩) 4 4) (keyR x) := fun W => hx0 W
  have hy1 : ∀ W : World, SlI (W.alloc (.cells #[.int .i64 y.unit, .int .i64 y.role, .int .i64 y.auth, .int .i64 y.fr] 3)) (.slice (some ⟨W.heap.size, 0, none⟩) 4 4) (keyR y) := fun W => hy0 W
  have hlx : (keyR x).length = 4 := rfl
  have hly : (keyR y).length = 4 := rfl
  generalize keyR x = p at hx1 hlx ⊢
  generalize keyR y = q at hy1 hly ⊢
  have H1 := Lib.hid (lessF_hit p q)
  have H2 := Lib.hid (lessF_miss p q (by omega))
  generalize lessF p q = R at H1 H2 ⊢
  have HX := Lib.hid hx1
  have HY := Lib.hid hy1
  have HLX := Lib.hid hlx
  have HLY := Lib.hid hly
  obtain ⟨xu, xr, xa, xf, xn⟩ := x
  obtain ⟨yu, yr, ya, yf, yn⟩ := y
  unfold Rel.agg
  dsimp only at HX HY ⊢
  clear hx0 hy0 hx1 hy1 hlx hly
  go_enter Tryz.func46, Tryz.ntmps46
  go_wp2
  have a0 := keep_cell ((Grew.refl (w.alloc (.cells #[.int .i64 xu, .int .i64 xr, .int .i64 xa, .int .i64 xf, .int .i64 xn] 27))).alloc (.cells #[.int .i64 yu, .int .i64 yr, .int .i64 ya, .int .i64 yf, .int .i64 yn] 27)) (new_cell (Grew.refl (w.alloc (.cells #[.int .i64 xu, .int .i64 xr, .int .i64 xa, .int .i64 xf, .int .i64 xn] 27))) 0 _ rfl)
  have a1 := keep_cell ((Grew.refl (w.alloc (.cells #[.int .i64 xu, .int .i64 xr, .int .i64 xa, .int .i64 xf, .int .i64 xn] 27))).alloc (.cells #[.int .i64 yu, .int .i64 yr, .int .i64 ya, .int .i64 yf, .int .i64 yn] 27)) (new_cell (Grew.refl (w.alloc (.cells #[.int .i64 xu, .int .i64 xr, .int .i64 xa, .int .i64 xf, .int .i64 xn] 27))) 1 _ rfl)
  have a2 := keep_cell ((Grew.refl (w.alloc (.cells #[.int .i64 xu, .int .i64 xr, .int .i64 xa, .int .i64 xf, .int .i64 xn] 27))).alloc (.cells #[.int .i64 yu, .int .i64 yr, .int .i64 ya, .int .i64 yf, .int .i64 yn] 27)) (new_cell (Grew.refl (w.alloc (.cells #[.int .i64 xu, .int .i64 xr, .int .i64 xa, .int .i64 xf, .int .i64 xn] 27))) 2 _ rfl)
  have a3 := keep_cell ((Grew.refl (w.alloc (.cells #[.int .i64 xu, .int .i64 xr, .int .i64 xa, .int .i64 xf, .int .i64 xn] 27))).alloc (.cells #[.int .i64 yu, .int .i64 yr, .int .i64 ya, .int .i64 yf, .int .i64 yn] 27)) (new_cell (Grew.refl (w.alloc (.cells #[.int .i64 xu, .int .i64 xr, .int .i64 xa, .int .i64 xf, .int .i64 xn] 27))) 3 _ rfl)
  have c0 := new_cell (Grew.refl ((w.alloc (.cells #[.int .i64 xu, .int .i64 xr, .int .i64 xa, .int .i64 xf, .int .i64 xn] 27)).alloc (.cells #[.int .i64 yu, .int .i64 yr, .int .i64 ya, .int .i64 yf, .int .i64 yn] 27))) 0 _ rfl
  have c1 := new_cell (Grew.refl ((w.alloc (.cells #[.int .i64 xu, .int .i64 xr, .int .i64 xa, .int .i64 xf, .int .i64 xn] 27)).alloc (.cells #[.int .i64 yu, .int .i64 yr, .int .i64 ya, .int .i64 yf, .int .i64 yn] 27))) 1 _ rfl
  have c2 := new_cell (Grew.refl ((w.alloc (.cells #[.int .i64 xu, .int .i64 xr, .int .i64 xa, .int .i64 xf, .int .i64 xn] 27)).alloc (.cells #[.int .i64 yu, .int .i64 yr, .int .i64 ya, .int .i64 yf, .int .i64 yn] 27))) 2 _ rfl
  have c3 := new_cell (Grew.refl ((w.alloc (.cells #[.int .i64 xu, .int .i64 xr, .int .i64 xa, .int .i64 xf, .int .i64 xn] 27)).alloc (.cells #[.int .i64 yu, .int .i64 yr, .int .i64 ya, .int .i64 yf, .int .i64 yn] 27))) 3 _ rfl
  simp only [size_of_alloc] at c0 c1 c2 c3
  have G0 := Lib.hid (((Grew.refl w).alloc (.cells #[.int .i64 xu, .int .i64 xr, .int .i64 xa, .int .i64 xf, .int .i64 xn] 27)).alloc (.cells #[.int .i64 yu, .int .i64 yr, .int .i64 ya, .int .i64 yf, .int .i64 yn] 27))
  generalize (w.alloc (.cells #[.int .i64 xu, .int .i64 xr, .int .i64 xa, .int .i64 xf, .int .i64 xn] 27)).alloc (.cells #[.int .i64 yu, .int .i64 yr, .int .i64 ya, .int .i64 yf, .int .i64 yn] 27) = W0 at a0 a1 a2 a3 c0 c1 c2 c3 G0 ⊢
  generalize w.heap.size + 1 = B2 at c0 c1 c2 c3 ⊢
  generalize w.heap.size = B1 at a0 a1 a2 a3 ⊢
  go_region_held3 (fun W => W.cell? ⟨B1, 0, none⟩ = some (.int .i64 xu) ∧ W.cell? ⟨B1, 1, none⟩ = some (.int .i64 xr) ∧ W.cell? ⟨B1, 2, none⟩ = some (.int .i64 xa) ∧ W.cell? ⟨B1, 3, none⟩ = some (.int .i64 xf) ∧ W.cell? ⟨B2, 0, none⟩ = some (.int .i64 yu) ∧ W.cell? ⟨B2, 1, none⟩ = some (.int .i64 yr) ∧ W.cell? ⟨B2, 2, none⟩ = some (.int .i64 ya) ∧ W.cell? ⟨B2, 3, none⟩ = some (.int .i64 yf)) (refine held8 W0 _ a0 a1 a2 a3 c0 c1 c2 c3 (by repeat (first | exact Grew.refl W0 | refine Grew.drew ?_ | refine Grew.alloc ?_ _))) (fail)
  all_goals go_wp2_with fail
  all_goals clear a0 a1 a2 a3 c0 c1 c2 c3
  · skip
    have sp := ((HX.out W0).mono ((Grew.refl _).alloc (.cells #[.int .i64 yu, .int .i64 yr, .int .i64 ya, .int .i64 yf] 3))).mono (Grew.refl _).drew
    have k2 := HY.out (W0.alloc (.cells #[.int .i64 xu, .int .i64 xr, .int .i64 xa, .int .i64 xf] 3))
    simp only [size_of_alloc] at k2
    have sq := k2.mono (Grew.refl _).drew
    clear k2
    have GZ := Lib.hid (((G0.out.alloc (.cells #[.int .i64 xu, .int .i64 xr, .int .i64 xa, .int .i64 xf] 3)).alloc (.cells #[.int .i64 yu, .int .i64 yr, .int .i64 ya, .int .i64 yf] 3)).drew)
    generalize ((W0.alloc (.cells #[.int .i64 xu, .int .i64 xr, .int .i64 xa, .int .i64 xf] 3)).alloc (.cells #[.int .i64 yu, .int .i64 yr, .int .i64 ya, .int .i64 yf] 3)).drew = WZ at sp sq GZ ⊢
    have SP := Lib.hid sp
    have SQ := Lib.hid sq
    clear sp sq HX HY
    generalize W0.heap.size + 1 = C2 at SP SQ ⊢
    generalize W0.heap.size = C1 at SP SQ ⊢
    go_loopg [7] 4 (fun gg s7 wr => ∃ k : Nat, k ≤ 4 ∧ 4 - k ≤ gg ∧ s7 = .int .i64 k ∧ Aside (Grew WZ wr) ∧ Aside (∀ j (h : j < p.length) (h' : j < q.length), j < k → p[j] = q[j]))
    case atStart => exact ⟨0, by omega, by omega, rfl, (show Aside _ from Grew.refl _), (show Aside _ from fun j h h' h2 => absurd h2 (Nat.not_lt_zero _))⟩
    case round =>
      obtain ⟨k, hk, hgk, rfl, BW, M⟩ := hrel
      by_cases hlt : k < 4
      · have hltz : (k : Int) < 4 := by omega
        have h0z : (0 : Int) ≤ (k : Int) := by omega
        have hkp : k < p.length := by rw [HLX.out]; exact hlt
        have hkq : k < q.length := by rw [HLY.out]; exact hlt
        have c1 := slI_cell SP.out BW.out k hkp
        have c2 := slI_cell SQ.out BW.out k hkq
        have HN : RowKit.Hid (p[k] = q[k] → ∀ j (h : j < p.length) (h' : j < q.length), j < k + 1 → p[j] = q[j]) := fun h j hj hj' h2 => by
          by_cases e : j = k
          · subst e; exact h
          · exact M.out j hj hj' (by omega)
        have HD := Lib.hid (H1.out k hkp hkq M.out)
        generalize p[k] = y at c1 HN HD
        generalize q[k] = z at c2 HN HD
        by_cases he : y = z
        · have he' : (y != z) = false := by simpa using he
          have Hy := Lib.hid (HN.out he)
          clear HN HD he M
          go_wp2
          go_quiet (fail)
          clear c1 c2
          go_wp2
          go_roundg (4 - (k + 1))
          case measure => omega
          case rel => exact ⟨k + 1, by omega, by omega, by go_num, (show Aside _ from BW.out.drewN _), (show Aside _ from Hy.out)⟩
        · have he' : (y != z) = true := by simpa using he
          have hR := HD.out he
          subst hR
          clear HN HD he M H1 H2
          go_wp2
          go_quiet (fail)
          go_wp2
          go_quiet (fail)
          clear c1 c2
          go_wp2
          go_ret
          exact ⟨rfl, GZ.out.trans ((BW.out.drewN _).drewN _)⟩
      · have hltz : ¬ (k : Int) < 4 := by omega
        have hR := H2.out (fun j h h' => M.out j h h' (by have := HLX.out; omega))
        subst hR
        clear H1 H2 M
        go_wp2
        go_ret
        exact ⟨rfl, GZ.out.trans BW.out⟩
  · skip
    have sq := ((HY.out W0).mono ((Grew.refl _).alloc (.cells #[.int .i64 xu, .int .i64 xr, .int .i64 xa, .int .i64 xf] 3))).mono (Grew.refl _).drew
    have k2 := HX.out (W0.alloc (.cells #[.int .i64 yu, .int .i64 yr, .int .i64 ya, .int .i64 yf] 3))
    simp only [size_of_alloc] at k2
    have sp := k2.mono (Grew.refl _).drew
    clear k2
    have GZ := Lib.hid (((G0.out.alloc (.cells #[.int .i64 yu, .int .i64 yr, .int .i64 ya, .int .i64 yf] 3)).alloc (.cells #[.int .i64 xu, .int .i64 xr, .int .i64 xa, .int .i64 xf] 3)).drew)
    generalize ((W0.alloc (.cells #[.int .i64 yu, .int .i64 yr, .int .i64 ya, .int .i64 yf] 3)).alloc (.cells #[.int .i64 xu, .int .i64 xr, .int .i64 xa, .int .i64 xf] 3)).drew = WZ at sp sq GZ ⊢
    have SP := Lib.hid sp
    have SQ := Lib.hid sq
    clear sp sq HX HY
    generalize W0.heap.size + 1 = C2 at SP SQ ⊢
    generalize W0.heap.size = C1 at SP SQ ⊢
    go_loopg [7] 4 (fun gg s7 wr => ∃ k : Nat, k ≤ 4 ∧ 4 - k ≤ gg ∧ s7 = .int .i64 k ∧ Aside (Grew WZ wr) ∧ Aside (∀ j (h : j < p.length) (h' : j < q.length), j < k → p[j] = q[j]))
    case atStart => exact ⟨0, by omega, by omega, rfl, (show Aside _ from Grew.refl _), (show Aside _ from fun j h h' h2 => absurd h2 (Nat.not_lt_zero _))⟩
    case round =>
      obtain ⟨k, hk, hgk, rfl, BW, M⟩ := hrel
      by_cases hlt : k < 4
      · have hltz : (k : Int) < 4 := by omega
        have h0z : (0 : Int) ≤ (k : Int) := by omega
        have hkp : k < p.length := by rw [HLX.out]; exact hlt
        have hkq : k < q.length := by rw [HLY.out]; exact hlt
        have c1 := slI_cell SP.out BW.out k hkp
        have c2 := slI_cell SQ.out BW.out k hkq
        have HN : RowKit.Hid (p[k] = q[k] → ∀ j (h : j < p.length) (h' : j < q.length), j < k + 1 → p[j] = q[j]) := fun h j hj hj' h2 => by
          by_cases e : j = k
          · subst e; exact h
          · exact M.out j hj hj' (by omega)
        have HD := Lib.hid (H1.out k hkp hkq M.out)
        generalize p[k] = y at c1 HN HD
        generalize q[k] = z at c2 HN HD
        by_cases he : y = z
        · have he' : (y != z) = false := by simpa using he
          have Hy := Lib.hid (HN.out he)
          clear HN HD he M
          go_wp2
          go_quiet (fail)
          clear c1 c2
          go_wp2
          go_roundg (4 - (k + 1))
          case measure => omega
          case rel => exact ⟨k + 1, by omega, by omega, by go_num, (show Aside _ from BW.out.drewN _), (show Aside _ from Hy.out)⟩
        · have he' : (y != z) = true := by simpa using he
          have hR := HD.out he
          subst hR
          clear HN HD he M H1 H2
          go_wp2
          go_quiet (fail)
          go_wp2
          go_quiet (fail)
          clear c1 c2
          go_wp2
          go_ret
          exact ⟨rfl, GZ.out.trans ((BW.out.drewN _).drewN _)⟩
      · have hltz : ¬ (k : Int) < 4 := by omega
        have hR := H2.out (fun j h h' => M.out j h h' (by have := HLX.out; omega))
        subst hR
        clear H1 H2 M
        go_wp2
        go_ret
        exact ⟨rfl, GZ.out.trans BW.out⟩
end Go.Proofs.YtfghbendiofbeaaGreatDoor

/- The reference's Check and Right of relations, and its small questions, walked. No condition. -/
namespace Go.Proofs.YtfghbendiofbeaaGreatDoor
open Go.RowKit

set_option maxHeartbeats 2000000 in
theorem refOn (fr un day : Int) (w : World) : Calls Tryz.prog 68 #[.agg #[.int .i64 fr, .int .i64 un], .int .i64 day] w fun e w' => e = .returned (.bool (inF fr un day)) ∧ Grew w w' := by
  unfold inF
  cases a1 : decide (fr ≤ day) <;> cases a2 : decide (day < un)
  all_goals
    go_enter Tryz.func68, Tryz.ntmps68
    go_wp2
    go_ret
    exact ⟨rfl, (Grew.refl w).alloc _⟩
theorem ranged_or (role day : Int) : rangedF role day = if (decide (role < 1) || (decide (4 < role) || (decide (day < 0) || decide (1048575 < day)))) then 2 else 0 := by
  unfold rangedF within
  by_cases h1 : 1 ≤ role <;> by_cases h2 : role ≤ 4 <;> by_cases h3 : 0 ≤ day <;> by_cases h4 : day ≤ 1048575 <;> simp [h1, h2, h3, h4] <;> omega
set_option maxHeartbeats 2000000 in
theorem refAsked (role day : Int) (w : World) : Calls Tryz.prog 62 #[.int .i64 role, .int .i64 day] w fun e w' => e = .returned (.int .i64 (rangedF role day)) ∧ w = w' := by
  rw [ranged_or]
  cases a1 : decide (role < 1) <;> cases a2 : decide (4 < role) <;> cases a3 : decide (day < 0) <;> cases a4 : decide (1048575 < day)
  all_goals
    go_enter Tryz.func62, Tryz.ntmps62
    go_wp2
    go_ret
    exact ⟨rfl, rfl⟩
set_option maxRecDepth 100000 in
set_option maxHeartbeats 8000000 in
theorem refCheck26 (a : List Auth) (l : List Rel) (av lv : Value) (w : World) (ha : SlAu w av a) (hl : SlR w lv l) :
    Calls Tryz.prog 16 #[av, lv] w fun e w' => e = .returned (.tuple #[.int .i64 (relCheck a l).1, .int .i64 (relCheck a l).2]) ∧ Grew w w' := by
  have kR := refRight23 a av w ha
  have HA := Lib.hid ha
  obtain ⟨A, c, rfl, hlc, hc, hr⟩ := hl.open_
  unfold maxLen at hc
  have HR := Lib.hid hr
  clear hr hl ha
  by_cases h0 : AuthRight a
  case neg =>
    have hC : relCheck a l = (-1, 1) := by simp [relCheck, h0]
    rw [hC]
    rw [decide_eq_false h0] at kR
    have KR := Lib.hid kR
    clear kR h0 hC
    go_enter Tryz.func16, Tryz.ntmps16
    go_wp2_with (first | (go_at_call 44; refine KR.out.mono ?_; rintro e w1 ⟨rfl, hg⟩))
    go_ret2
    exact ⟨rfl, hg⟩
  rw [decide_eq_true h0] at kR
  have KR := Lib.hid kR
  by_cases h1 : 256 < l.length
  · have hC : relCheck a l = (-1, 8) := by simp [relCheck, h0, h1]
    rw [hC]
    have h1' : (256 : Int) < (l.length : Int) := by omega
    clear kR h0 hC
    go_enter Tryz.func16, Tryz.ntmps16
    go_wp2_with (first | (go_at_call 44; refine KR.out.mono ?_; rintro e w1 ⟨rfl, hg⟩))
    go_ret2
    exact ⟨rfl, hg⟩
  have h1' : ¬ (256 : Int) < (l.length : Int) := by omega
  have hC : relCheck a l = findBad (relFaultAt a l) l.length 0 := by simp [relCheck, h0, h1]
  rw [hC]
  generalize hF : findBad (relFaultAt a l) l.length 0 = R
  have HFB := Lib.hid hF
  clear kR h0 hC hF h1
  go_enter Tryz.func16, Tryz.ntmps16
  go_wp2_with (first | (go_at_call 44; refine KR.out.mono ?_; rintro e w1 ⟨rfl, hg⟩))
  go_loopg [6] l.length (fun gg s6 wr => ∃ kk : Nat, kk ≤ l.length ∧ l.length - kk ≤ gg ∧ s6 = .int .i64 kk ∧ Aside (Grew w wr) ∧ Aside (∀ i, i < kk → relFaultAt a l i = 0))
  case atStart => exact ⟨0, Nat.zero_le _, by omega, rfl, hg, fun i h => absurd h (Nat.not_lt_zero _)⟩
  case round =>
    obtain ⟨kk, hkk, hgk, rfl, BW, M⟩ := hrel
    clear hg
    by_cases hlt : kk < l.length
    case neg =>
      have hltz : ¬ (kk : Int) < (l.length : Int) := by omega
      have Hm := Lib.hid (HFB.out.symm.trans (findBad_miss _ _ (fun j hj => M.out j (by omega))))
      go_wp2
      go_ret2
      refine ⟨?_, BW.out⟩
      rw [Hm.out]
      rfl
    have hltz : (kk : Int) < (l.length : Int) := by omega
    have h0z : (0 : Int) ≤ (kk : Int) := by omega
    obtain ⟨b, off, rfl, hb, hcell⟩ := HR.out (by omega)
    have HCELL := Lib.hid hcell
    obtain ⟨c0, c1, c2, c3, c4⟩ := hcell wr BW.out kk hlt
    have hfa := relFaultAt_in a l kk hlt
    have hit : relFaultAt a l kk ≠ 0 → R = ((kk : Int), relFaultAt a l kk) := fun h => HFB.out.symm.trans (findBad_hit _ _ kk hlt M.out h)
    rw [hfa] at hit
    have HFA := Lib.hid hfa
    clear hcell hfa
    generalize hy : l[kk] = y at c0 c1 c2 c3 c4 hit HFA
    clear hy
    have kA := fun W (hW : Grew w W) => refOwn26 a y av W (HA.out.mono hW)
    have hFd : ∀ p, relFault a p y = if relAlone a y ≠ 0 then relAlone a y else match p with
      | none => 0
      | some u => if 0 ≤ orderR u y then 5 else if sameR u y = true ∧ y.fr < u.un then 6 else 0 := fun p => rfl
    generalize relAlone a y = al at kA hFd
    have HFD := Lib.hid hFd
    have HIT := Lib.hid hit
    have HY := Lib.hid (refLess · y)
    have HZ := Lib.hid (refSame26 · y)
    unfold Rel.agg at kA
    have KA := Lib.hid kA
    clear kA hFd hit
    obtain ⟨yu, yr, ya, yf, yn⟩ := y
    dsimp only at c0 c1 c2 c3 c4 KA
    go_wp2_with fail
    refine (KA.out _ BW.out).mono ?_
    rintro e w1 ⟨rfl, g1⟩
    have HGW := Lib.hid (BW.out.trans g1)
    have k0 := Gr.cell (keep_cell g1 c0)
    have k1 := Gr.cell (keep_cell g1 c1)
    have k2 := Gr.cell (keep_cell g1 c2)
    have k3 := Gr.cell (keep_cell g1 c3)
    have k4 := Gr.cell (keep_cell g1 c4)
    clear g1 c0 c1 c2 c3 c4
    dsimp only
    by_cases hal : al = 0
    case neg =>
      have hal' : (al != 0) = true := by simpa using hal
      have hfv : relFault a (prevR l kk) ⟨yu, yr, ya, yf, yn⟩ = al := by rw [HFD.out, if_pos hal]
      have Hr := Lib.hid (HIT.out (by rw [hfv]; exact hal))
      have Hf := Lib.hid hfv
      clear hal hfv k0 k1 k2 k3 k4
      go_wp2
      go_ret2
      refine ⟨?_, HGW.out⟩
      rw [Hr.out, Hf.out]
      rfl
    subst hal
    rcases Nat.eq_zero_or_pos kk with hk0 | hkpos
    · subst hk0
      have hfz : relFaultAt a l 0 = 0 := by rw [HFA.out, HFD.out]; simp [prevR]
      have Hf := Lib.hid hfz
      clear hfz HIT k0 k1 k2 k3 k4
      go_wp2
      go_quiet (fail)
      go_wp2
      go_quiet (fail)
      go_wp2
      go_roundg (l.length - 1)
      case measure => omega
      case rel =>
        refine ⟨1, by omega, by omega, by go_num, (show Aside _ from HGW.out.drewN _), (show Aside _ from fun i hi => ?_)⟩
        obtain rfl : i = 0 := by omega
        exact Hf.out
    · have hp1 : kk - 1 < l.length := by omega
      have hpv : prevR l kk = some l[kk - 1] := by rw [prevR, if_neg (by omega), List.getElem?_eq_getElem hp1]
      obtain ⟨d0, d1, d2, d3, d4⟩ := HCELL.out w1 HGW.out (kk - 1) hp1
      have kO := HY.out l[kk - 1]
      have kS := HZ.out l[kk - 1]
      have hfd : relFaultAt a l kk = if 0 ≤ orderR l[kk - 1] ⟨yu, yr, ya, yf, yn⟩ then 5 else if sameR l[kk - 1] ⟨yu, yr, ya, yf, yn⟩ = true ∧ yf < l[kk - 1].un then 6 else 0 := by
        rw [HFA.out, hpv, HFD.out]
        simp
      have hit2 := HIT.out
      rw [← HFA.out] at hit2
      unfold Rel.agg at kO kS
      clear hpv
      generalize l[kk - 1] = z at d0 d1 d2 d3 d4 kO kS hfd
      obtain ⟨zu, zr, za, zf, zn⟩ := z
      dsimp only at d0 d1 d2 d3 d4 kO kS hfd
      have f0 := Gr.cell d0
      have f1 := Gr.cell d1
      have f2 := Gr.cell d2
      have f3 := Gr.cell d3
      have f4 := Gr.cell d4
      clear d0 d1 d2 d3 d4
      have hkz : (0 : Int) < (kk : Int) := by omega
      have hki : (0 : Int) ≤ (kk : Int) - 1 := by omega
      have hki2 : (kk : Int) - 1 < (l.length : Int) := by omega
      have hki3 : (1 : Int) ≤ (kk : Int) := by omega
      have hkt : ((kk : Int) - 1).toNat = kk - 1 := by omega
      have HMK : RowKit.Hid (relFaultAt a l kk = 0 → ∀ i, i < kk + 1 → relFaultAt a l i = 0) := fun h i hi => by
        by_cases e : i = kk
        · subst e; exact h
        · exact M.out i (by omega)
      generalize relFaultAt a l kk = fk at hfd hit2 HMK
      generalize orderR ⟨zu, zr, za, zf, zn⟩ ⟨yu, yr, ya, yf, yn⟩ = oo at kO hfd
      generalize sameR ⟨zu, zr, za, zf, zn⟩ ⟨yu, yr, ya, yf, yn⟩ = ss at kS hfd
      have hoo : decide (oo < 0) = !decide (0 ≤ oo) := by rw [Bool.eq_iff_iff]; simp
      rw [hoo] at kO
      have KO := Lib.hid kO
      have KS := Lib.hid kS
      have HFK := Lib.hid hfd
      have HT2 := Lib.hid hit2
      clear kO kS hfd hit2 HFA HFD HIT HY HZ KA M hoo
      have hwr : IntKind.i64.wrap ((kk : Int) - 1) = (kk : Int) - 1 := IntWalk.i64_in _ (by omega)
      by_cases a6 : 0 ≤ oo
      · have hfk : fk = 5 := by rw [HFK.out]; simp [a6]
        have Hr := Lib.hid (HT2.out (by rw [hfk]; decide))
        have Hf := Lib.hid hfk
        have KO' := Lib.hid (show ∀ W, _ from fun W => by have := KO.out W; rw [decide_eq_true a6] at this; exact this)
        clear hfk KO a6
        go_wp2_with fail
        refine region_gr w1 (by kernel_rfl) (by kernel_rfl) (Grew.refl _) ?_
        repeat (first | go_big_quiet_step ((go_at_call 46; exact Gr.calls _ (KO'.out _))) | quiet_step ((go_at_call 46; exact Gr.calls _ (KO'.out _))))
        refine wpQuiet_nil ?_
        intro _ hw'
        obtain ⟨wi, rfl⟩ := hw'
        have HWI := Lib.hid wi.g
        clear hwr f0 f1 f2 f3 f4 k0 k1 k2 k3 k4
        go_wp2
        go_ret2
        refine ⟨?_, HGW.out.trans HWI.out⟩
        rw [Hr.out, Hf.out]
        rfl
      · have hfk : fk = if ss = true ∧ yf < zn then 6 else 0 := by rw [HFK.out]; simp [a6]
        have HFK2 := Lib.hid hfk
        have KO' := Lib.hid (show ∀ W, _ from fun W => by have := KO.out W; rw [decide_eq_false a6] at this; exact this)
        clear hfk a6 HFK KO
        go_wp2_with fail
        refine region_gr w1 (by kernel_rfl) (by kernel_rfl) (Grew.refl _) ?_
        repeat (first | go_big_quiet_step ((go_at_call 46; exact Gr.calls _ (KO'.out _))) | quiet_step ((go_at_call 46; exact Gr.calls _ (KO'.out _))))
        refine wpQuiet_nil ?_
        intro _ hw'
        obtain ⟨wi, rfl⟩ := hw'
        have HWI := Lib.hid wi.g
        have hss : (ss = true ∧ yf < zn) ∨ ss = false ∨ (ss = true ∧ ¬ yf < zn) := by cases ss <;> by_cases r : yf < zn <;> simp [r]
        rcases hss with ⟨rfl, r⟩ | rfl | ⟨rfl, r⟩
        · have hfk : fk = 6 := by rw [HFK2.out]; simp [r]
          have Hr := Lib.hid (HT2.out (by rw [hfk]; decide))
          have Hf := Lib.hid hfk
          clear hfk
          go_wp2_with fail
          refine region_gr w1 (by kernel_rfl) (by kernel_rfl) HWI.out ?_
          repeat (first | go_big_quiet_step ((go_at_call 47; exact Gr.calls _ (KS.out _))) | quiet_step ((go_at_call 47; exact Gr.calls _ (KS.out _))))
          refine wpQuiet_nil ?_
          intro _ hw'
          obtain ⟨wj, rfl⟩ := hw'
          have HWJ := Lib.hid wj.g
          clear hwr f0 f1 f2 f3 f4 k0 k1 k2 k3 k4
          go_wp2
          go_ret2
          refine ⟨?_, HGW.out.trans HWJ.out⟩
          rw [Hr.out, Hf.out]
          rfl
        · have hfk : fk = 0 := by rw [HFK2.out]; simp
          have Hf := Lib.hid (HMK.out hfk)
          clear hfk
          go_wp2_with fail
          refine region_gr w1 (by kernel_rfl) (by kernel_rfl) HWI.out ?_
          repeat (first | go_big_quiet_step ((go_at_call 47; exact Gr.calls _ (KS.out _))) | quiet_step ((go_at_call 47; exact Gr.calls _ (KS.out _))))
          refine wpQuiet_nil ?_
          intro _ hw'
          obtain ⟨wj, rfl⟩ := hw'
          have HWJ := Lib.hid wj.g
          clear hwr f0 f1 f2 f3 f4 k0 k1 k2 k3 k4
          go_wp2
          go_roundg (l.length - (kk + 1))
          case measure => omega
          case rel => exact ⟨kk + 1, by omega, by omega, by go_num, (show Aside _ from HGW.out.trans HWJ.out), (show Aside _ from Hf.out)⟩
        · have r' : decide (yf < zn) = false := by simpa using r
          have hfk : fk = 0 := by rw [HFK2.out]; simp [r]
          have Hf := Lib.hid (HMK.out hfk)
          clear hfk r
          go_wp2_with fail
          refine region_gr w1 (by kernel_rfl) (by kernel_rfl) HWI.out ?_
          repeat (first | go_big_quiet_step ((go_at_call 47; exact Gr.calls _ (KS.out _))) | quiet_step ((go_at_call 47; exact Gr.calls _ (KS.out _))))
          refine wpQuiet_nil ?_
          intro _ hw'
          obtain ⟨wj, rfl⟩ := hw'
          have HWJ := Lib.hid wj.g
          clear hwr f0 f1 f2 f3 f4 k0 k1 k2 k3 k4
          go_wp2
          go_roundg (l.length - (kk + 1))
          case measure => omega
          case rel => exact ⟨kk + 1, by omega, by omega, by go_num, (show Aside _ from HGW.out.trans HWJ.out), (show Aside _ from Hf.out)⟩
theorem asks_bool (a : List Auth) (l : List Rel) : decide (asksF a l = 0) = ((relCheck a l).2 == 0) := by
  unfold asksF
  by_cases h : (relCheck a l).2 = 0 <;> simp [h]
theorem refRight26 (a : List Auth) (l : List Rel) (av lv : Value) (w : World) (ha : SlAu w av a) (hl : SlR w lv l) : Calls Tryz.prog 58 #[av, lv] w fun e w' => e = .returned (.bool (decide (asksF a l = 0))) ∧ Grew w w' := by
  have kC := refCheck26 a l av lv w ha hl
  rw [asks_bool]
  generalize (relCheck a l).1 = n at kC ⊢
  generalize (relCheck a l).2 = m at kC ⊢
  have KC := Lib.hid kC
  clear kC ha hl
  go_enter Tryz.func58, Tryz.ntmps58
  go_wp2_with fail
  refine KC.out.mono ?_
  rintro e w1 ⟨rfl, g1⟩
  have HG := Lib.hid g1
  clear g1
  dsimp only
  go_wp2
  go_ret
  exact ⟨rfl, HG.out⟩
end Go.Proofs.YtfghbendiofbeaaGreatDoor

/- The reference's holders and units of relations, walked. The condition: the list is short. -/
namespace Go.Proofs.YtfghbendiofbeaaGreatDoor
open Go.RowKit

def insAll (m : List Int) : List Int := m.foldl (fun o n => insU n o) []
theorem insAll_len (m : List Int) : (insAll m).length ≤ m.length := by
  have key : ∀ (m o : List Int), (m.foldl (fun o n => insU n o) o).length ≤ o.length + m.length := by
    intro m
    induction m with
    | nil => intro o; simp
    | cons x r ih =>
      intro o
      have h1 := ih (insU x o)
      have h2 : (insU x o).length ≤ o.length + 1 := by
        clear h1 ih
        induction o with
        | nil => simp [insU]
        | cons y s ih2 =>
          unfold insU
          split
          · simp only [List.length_cons]; omega
          · split <;> simp
      simp only [List.foldl_cons, List.length_cons]
      omega
  have := key m []
  simpa [insAll] using this
theorem asc_compactUpTo (d : Array Int) (h : ∀ i j, i ≤ j → j < d.size → d[i]! ≤ d[j]!) : ∀ m, m ≤ d.size → Asc (Lib.compactUpTo d m)
  | 0, _ => by simp [Lib.compactUpTo, Asc]
  | m + 1, hm => by
    rw [Lib.compactUpTo_succ]
    have ih := asc_compactUpTo d h m (by omega)
    cases hk : Lib.keeps d m
    · simpa using ih
    · rw [if_pos rfl]
      refine List.pairwise_append.2 ⟨ih, by simp, fun x hx y hy => ?_⟩
      obtain ⟨j, hj, rfl⟩ := (mem_compactUpTo d x m).1 hx
      rw [List.mem_singleton] at hy
      subst hy
      unfold Lib.keeps at hk
      rw [decide_eq_true_eq] at hk
      rcases hk with e | hne
      · omega
      · have h1 := h j (m - 1) (by omega) (by omega)
        have h2 := h (m - 1) m (by omega) (by omega)
        omega
theorem compact_ins {l : List Int} (h : l.Pairwise (· ≤ ·)) : Lib.compact l = insAll l := by
  refine asc_ext ?_ (foldU l [] List.Pairwise.nil).1 (fun x => ?_)
  · unfold Lib.compact
    refine asc_compactUpTo _ (fun i j hij hj => ?_) _ (by simp)
    have hj' : j < l.length := by simpa using hj
    rw [getElem!_pos l.toArray j hj, getElem!_pos l.toArray i (by simp; omega)]
    simp only [List.getElem_toArray]
    by_cases e : i = j
    · subst e; omega
    · exact List.pairwise_iff_getElem.1 h i j (by omega) hj' (by omega)
  · rw [mem_compact]
    have hf := (foldU l [] List.Pairwise.nil).2 x
    unfold insAll
    rw [hf]
    simp
theorem units_asc {a : List Auth} {l : List Rel} (hR : RightR a l) (id day : Int) : (unitsIn l id day).Pairwise (· ≤ ·) := by
  unfold unitsIn
  refine List.Pairwise.map _ ?_ (List.Pairwise.filter _ hR.2.2.2.1)
  intro x y h
  unfold ltR at h
  omega
theorem unitsF_ref (a : List Auth) (l : List Rel) (id day : Int) : unitsF a l id day = if asksF a l ≠ 0 then ([], 1) else if (auFind a id).isSome = false then ([], 7) else if within day 0 1048575 = false then ([], 2) else (insAll (unitsIn l id day), 0) := by
  unfold unitsF
  by_cases h0 : asksF a l = 0
  · simp only [h0, ne_eq, not_true_eq_false, if_false]
    rw [compact_ins (units_asc (asks_right.1 h0) id day)]
  · rw [if_pos h0, if_pos h0]
    congr 1
    revert h0
    unfold asksF
    split <;> simp
theorem holdersR_ref (a : List Auth) (l : List Rel) (u r d : Int) : holdersR a l u r d = if asksF a l ≠ 0 then ([], 1) else if rangedF r d ≠ 0 then ([], rangedF r d) else (holdersF l u r d, 0) := by
  unfold holdersR
  by_cases h0 : asksF a l = 0
  · rw [h0]
    by_cases h1 : rangedF r d = 0
    · simp [h1, orF]
    · simp [h1, orF]
  · have h1 : asksF a l = 1 := by
      revert h0
      unfold asksF
      split <;> simp
    rw [h1]
    simp [orF]
theorem insAll_snoc (m : List Int) (n : Int) : insAll (m ++ [n]) = insU n (insAll m) := by simp [insAll]
theorem holders_ins (l : List Rel) (u r d : Int) : holdersF l u r d = insAll ((l.filter (relOn u r d)).map Rel.auth) := rfl
theorem holders_take (l : List Rel) (u r d : Int) (k : Nat) (h : k < l.length) : holdersF (l.take (k + 1)) u r d = if relOn u r d l[k] = true then insU l[k].auth (holdersF (l.take k) u r d) else holdersF (l.take k) u r d := by
  rw [holders_ins, holders_ins, List.take_succ_eq_append_getElem h, List.filter_append, List.map_append]
  cases hc : relOn u r d l[k]
  · simp [hc]
  · rw [if_pos rfl, ← insAll_snoc]
    simp [hc]
theorem units_take (l : List Rel) (id day : Int) (k : Nat) (h : k < l.length) : insAll (unitsIn (l.take (k + 1)) id day) = if unitOn id day l[k] = true then insU l[k].unit (insAll (unitsIn (l.take k) id day)) else insAll (unitsIn (l.take k) id day) := by
  rw [unitsIn_take l id day k h]
  cases hc : unitOn id day l[k]
  · simp
  · rw [if_pos rfl, if_pos rfl, insAll_snoc]
set_option maxHeartbeats 8000000 in
theorem refHoldersIn (l : List Rel) (u r d : Int) (v : Value) (w : World) (hl : SlR w v l) (hll : l.length ≤ 1000000) : Calls Tryz.prog 63 #[v, .int .i64 u, .int .i64 r, .int .i64 d] w (RetI (holdersF l u r d) w) := by
  obtain ⟨A, c, rfl, hlc, hc, hr⟩ := hl.open_
  unfold maxLen at hc
  have HR := Lib.hid hr
  have HT := Lib.hid (holders_take l u r d)
  have HLN := Lib.hid (fun k => holdersF_len (l.take k) u r d)
  clear hr hl
  go_enter Tryz.func63, Tryz.ntmps63
  go_wp2
  go_loopg [9, 10] l.length (fun gg s9 s10 wr => ∃ k : Nat, k ≤ l.length ∧ l.length - k ≤ gg ∧ s10 = .int .i64 k ∧ Aside (SlI wr s9 (holdersF (l.take k) u r d)) ∧ Aside (Grew w wr))
  case atStart => exact ⟨0, by omega, by omega, rfl, (show Aside _ from SlI.nil _), (show Aside _ from Grew.refl _)⟩
  case round =>
    obtain ⟨k, hk, hgk, rfl, OW, BW⟩ := hrel
    by_cases hlt : k < l.length
    case neg =>
      have hltz : ¬ (k : Int) < (l.length : Int) := by omega
      obtain rfl : k = l.length := by omega
      rw [List.take_length] at OW
      go_wp2
      go_ret
      exact ⟨_, rfl, OW.out, BW.out⟩
    have hltz : (k : Int) < (l.length : Int) := by omega
    have h0z : (0 : Int) ≤ (k : Int) := by omega
    obtain ⟨b, off, rfl, hb, hcell⟩ := HR.out (by omega)
    obtain ⟨c0, c1, c2, c3, c4⟩ := hcell wr BW.out k hlt
    have ht := HT.out k hlt
    have hln := HLN.out k
    rw [List.length_take] at hln
    unfold relOn at ht
    generalize holdersF (l.take k) u r d = U at ht hln OW
    generalize hU2 : holdersF (l.take (k + 1)) u r d = U2 at ht
    have HU2 := Lib.hid hU2
    clear hcell hU2
    generalize l[k] = y at ht c0 c1 c2 c3 c4
    obtain ⟨yu, yr, ya, yf, yn⟩ := y
    dsimp only at ht c0 c1 c2 c3 c4
    have kI := refOn yf yn d
    generalize inF yf yn d = q at kI ht
    have KI := Lib.hid kI
    have HRel := Lib.hid (fun (V X : Value) (W : World) (O : SlI W X U2) (G : Grew w W) (hV : V = .int .i64 (k + 1 : Nat)) => (⟨k + 1, by omega, by omega, hV, (show Aside _ from by rw [HU2.out]; exact O), (show Aside _ from G)⟩ : ∃ k2 : Nat, k2 ≤ l.length ∧ l.length - k2 ≤ l.length - (k + 1) ∧ V = .int .i64 k2 ∧ Aside (SlI W X (holdersF (l.take k2) u r d)) ∧ Aside (Grew w W)))
    have HT2 := Lib.hid ht
    clear ht kI
    cases hq1 : (yu == u)
    · have hE : U2 = U := by rw [HT2.out, hq1]; simp
      subst hE
      go_wp2
      go_roundg (l.length - (k + 1))
      case measure => omega
      case rel => exact HRel.out _ _ _ OW.out BW.out (by go_num)
    cases hq2 : (yr == r)
    · have hE : U2 = U := by rw [HT2.out, hq1, hq2]; simp
      subst hE
      go_wp2
      go_roundg (l.length - (k + 1))
      case measure => omega
      case rel => exact HRel.out _ _ _ OW.out BW.out (by go_num)
    cases q
    · have hE : U2 = U := by rw [HT2.out, hq1, hq2]; simp
      subst hE
      go_wp2_with fail
      refine (KI.out _).mono ?_
      rintro e w4 ⟨rfl, g4⟩
      have HG4 := Lib.hid g4
      clear g4
      dsimp only
      go_wp2
      go_roundg (l.length - (k + 1))
      case measure => omega
      case rel => exact HRel.out _ _ _ (OW.out.mono HG4.out) (BW.out.trans HG4.out) (by go_num)
    · have hE : U2 = insU ya U := by rw [HT2.out, hq1, hq2]; simp
      subst hE
      go_wp2_with fail
      refine (KI.out _).mono ?_
      rintro e w4 ⟨rfl, g4⟩
      have f2 := keep_cell g4 c2
      have KC := Lib.hid (refInsert U ya u9 w4 (OW.out.mono g4) (by omega))
      have HG4 := Lib.hid (BW.out.trans g4)
      clear g4 c0 c1 c2 c3 c4
      dsimp only
      go_wp2_with fail
      refine KC.out.mono ?_
      rintro e w5 ⟨v5, rfl, s5, g5⟩
      have S5 := Lib.hid s5
      have HG5 := Lib.hid (HG4.out.trans g5)
      clear s5 g5 f2
      dsimp only
      go_wp2
      go_roundg (l.length - (k + 1))
      case measure => omega
      case rel => exact HRel.out _ _ _ S5.out HG5.out (by go_num)
set_option maxHeartbeats 4000000 in
theorem refHolders (a : List Auth) (l : List Rel) (u r d : Int) (av lv : Value) (w : World) (ha : SlAu w av a) (hl : SlR w lv l) (hll : l.length ≤ 1000000) :
    Calls Tryz.prog 25 #[av, lv, .int .i64 u, .int .i64 r, .int .i64 d] w (RetRow (holdersR a l u r d) w) := by
  have kR := refRight26 a l av lv w ha hl
  have kA := refAsked r d
  have kH := fun W (hW : Grew w W) => refHoldersIn l u r d lv W (hl.mono hW) hll
  rw [holdersR_ref]
  obtain ⟨A1, c1, rfl, -, -, -⟩ := hl.open_
  obtain ⟨A2, c2, rfl, -, -, -⟩ := ha.open_
  generalize holdersF l u r d = HF at kH ⊢
  generalize rangedF r d = q1 at kA ⊢
  have KA := Lib.hid kA
  have KH := Lib.hid kH
  clear kA kH hl ha
  by_cases h0 : asksF a l = 0
  case neg =>
    rw [if_pos h0]
    rw [decide_eq_false h0] at kR
    have KR := Lib.hid kR
    clear kR h0
    go_enter Tryz.func25, Tryz.ntmps25
    go_wp2_with fail
    refine KR.out.mono ?_
    rintro e w1 ⟨rfl, g1⟩
    dsimp only
    go_wp2
    go_ret2
    exact ⟨_, rfl, SlI.nil _, g1⟩
  rw [if_neg (by simpa using h0)]
  rw [decide_eq_true h0] at kR
  have KR := Lib.hid kR
  clear kR h0
  by_cases h1 : q1 = 0
  case neg =>
    rw [if_pos h1]
    have h1' : (q1 != 0) = true := by simpa using h1
    clear h1
    go_enter Tryz.func25, Tryz.ntmps25
    go_wp2_with fail
    refine KR.out.mono ?_
    rintro e w1 ⟨rfl, g1⟩
    have HG := Lib.hid g1
    clear g1
    dsimp only
    go_wp2_with fail
    refine (KA.out _).mono ?_
    rintro e w2 ⟨rfl, rfl⟩
    dsimp only
    go_wp2
    go_ret2
    exact ⟨_, rfl, SlI.nil _, HG.out⟩
  subst h1
  rw [if_neg (by simp)]
  go_enter Tryz.func25, Tryz.ntmps25
  go_wp2_with fail
  refine KR.out.mono ?_
  rintro e w1 ⟨rfl, g1⟩
  have HG := Lib.hid g1
  clear g1
  dsimp only
  go_wp2_with fail
  refine (KA.out _).mono ?_
  rintro e w2 ⟨rfl, rfl⟩
  dsimp only
  go_wp2_with fail
  refine (KH.out _ HG.out).mono ?_
  rintro e w3 ⟨v3, rfl, s3, g3⟩
  have S3 := Lib.hid s3
  clear s3
  dsimp only
  go_wp2
  go_ret2
  exact ⟨_, rfl, S3.out, HG.out.trans g3⟩
end Go.Proofs.YtfghbendiofbeaaGreatDoor

/- The reference's units of an authority, walked. The condition: the list is short. -/
namespace Go.Proofs.YtfghbendiofbeaaGreatDoor
open Go.RowKit

set_option maxHeartbeats 8000000 in
theorem refUnits (a : List Auth) (l : List Rel) (id day : Int) (av lv : Value) (w : World) (ha : SlAu w av a) (hl : SlR w lv l) (hll : l.length ≤ 1000000) :
    Calls Tryz.prog 27 #[av, lv, .int .i64 id, .int .i64 day] w (RetRow (unitsF a l id day) w) := by
  have kR := refRight26 a l av lv w ha hl
  have kF := fun W (hW : Grew w W) => refFind a id av W (ha.mono hW)
  rw [unitsF_ref]
  generalize auFind a id = o at kF ⊢
  have KF := Lib.hid kF
  obtain ⟨A, c, rfl, hlc, hc, hr⟩ := hl.open_
  obtain ⟨A2, c2, rfl, -, -, -⟩ := ha.open_
  unfold maxLen at hc
  have HR := Lib.hid hr
  clear kF ha hl hr
  by_cases h0 : asksF a l = 0
  case neg =>
    rw [if_pos h0]
    rw [decide_eq_false h0] at kR
    have KR := Lib.hid kR
    clear kR h0
    go_enter Tryz.func27, Tryz.ntmps27
    go_wp2_with fail
    refine KR.out.mono ?_
    rintro e w1 ⟨rfl, g1⟩
    dsimp only
    go_wp2
    go_ret2
    exact ⟨_, rfl, SlI.nil _, g1⟩
  rw [if_neg (by simpa using h0)]
  rw [decide_eq_true h0] at kR
  have KR := Lib.hid kR
  clear kR h0
  cases hb : o.isSome
  · simp only [if_true]
    go_enter Tryz.func27, Tryz.ntmps27
    go_wp2_with fail
    refine KR.out.mono ?_
    rintro e w1 ⟨rfl, g1⟩
    dsimp only
    go_wp2_with fail
    refine (KF.out _ g1).mono ?_
    rintro e w2 ⟨A1, n1, d1, A2, n2, d2, rfl, g2⟩
    rw [hb]
    have HG2 := Lib.hid (g1.trans g2)
    clear g1 g2
    dsimp only
    go_wp2
    go_ret2
    refine ⟨_, rfl, SlI.nil _, ?_⟩
    exact HG2.out.alloc _
  simp only [Bool.true_eq_false, if_false]
  by_cases hd : within day 0 1048575 = true
  case neg =>
    rw [if_pos (by simpa using hd)]
    have hd2 : (decide (day < 0) = true) ∨ (decide (day < 0) = false ∧ decide (1048575 < day) = true) := by
      rw [within_t] at hd
      by_cases h : day < 0
      · exact .inl (by simpa using h)
      · exact .inr ⟨by simpa using h, by simp; omega⟩
    clear hd
    rcases hd2 with hx | ⟨hx, hy⟩
    all_goals
      go_enter Tryz.func27, Tryz.ntmps27
      go_wp2_with fail
      refine KR.out.mono ?_
      rintro e w1 ⟨rfl, g1⟩
      dsimp only
      go_wp2_with fail
      refine (KF.out _ g1).mono ?_
      rintro e w2 ⟨A1, n1, d1, A2, n2, d2, rfl, g2⟩
      rw [hb]
      have HG2 := Lib.hid (g1.trans g2)
      clear g1 g2
      dsimp only
      go_wp2
      go_ret2
      refine ⟨_, rfl, SlI.nil _, ?_⟩
      exact HG2.out.alloc _
  rw [hd]
  simp only [Bool.true_eq_false, if_false]
  rw [within_t] at hd
  obtain ⟨hd0, hd1⟩ := hd
  have hx : decide (day < 0) = false := by simp; omega
  have hy : decide (1048575 < day) = false := by simp; omega
  clear hd0 hd1
  have HT := Lib.hid (units_take l id day)
  have HL := Lib.hid (fun k => Nat.le_trans (insAll_len (unitsIn (l.take k) id day)) (unitsIn_len (l.take k) id day))
  go_enter Tryz.func27, Tryz.ntmps27
  go_wp2_with fail
  refine KR.out.mono ?_
  rintro e w1 ⟨rfl, g1⟩
  dsimp only
  go_wp2_with fail
  refine (KF.out _ g1).mono ?_
  rintro e w2 ⟨A1, n1, d1, A2, n2, d2, rfl, g2⟩
  rw [hb]
  have HG2 := Lib.hid (g1.trans g2)
  clear g1 g2
  dsimp only
  go_wp2
  clear hx hy
  go_loopg [12, 13] l.length (fun gg s12 s13 wr => ∃ k : Nat, k ≤ l.length ∧ l.length - k ≤ gg ∧ s13 = .int .i64 k ∧ Aside (SlI wr s12 (insAll (unitsIn (l.take k) id day))) ∧ Aside (Grew w wr))
  case atStart => exact ⟨0, by omega, by omega, rfl, (show Aside _ from SlI.nil _), (show Aside _ from HG2.out.alloc _)⟩
  case round =>
    obtain ⟨k, hk, hgk, rfl, OW, BW⟩ := hrel
    by_cases hlt : k < l.length
    case neg =>
      have hltz : ¬ (k : Int) < (l.length : Int) := by omega
      obtain rfl : k = l.length := by omega
      rw [List.take_length] at OW
      go_wp2
      go_ret2
      exact ⟨_, rfl, OW.out, BW.out⟩
    have hltz : (k : Int) < (l.length : Int) := by omega
    have h0z : (0 : Int) ≤ (k : Int) := by omega
    obtain ⟨b, off, rfl, hb, hcell⟩ := HR.out (by omega)
    obtain ⟨c0, c1, c2, c3, c4⟩ := hcell wr BW.out k hlt
    have ht := HT.out k hlt
    have hln := HL.out k
    rw [List.length_take] at hln
    unfold unitOn at ht
    generalize insAll (unitsIn (l.take k) id day) = U at ht hln OW
    generalize hU2 : insAll (unitsIn (l.take (k + 1)) id day) = U2 at ht
    have HU2 := Lib.hid hU2
    clear hcell hU2
    generalize l[k] = y at ht c0 c1 c2 c3 c4
    obtain ⟨yu, yr, ya, yf, yn⟩ := y
    dsimp only at ht c0 c1 c2 c3 c4
    have kI := refOn yf yn day
    generalize inF yf yn day = q at kI ht
    have KI := Lib.hid kI
    have HRel := Lib.hid (fun (V X : Value) (W : World) (O : SlI W X U2) (G : Grew w W) (hV : V = .int .i64 (k + 1 : Nat)) => (⟨k + 1, by omega, by omega, hV, (show Aside _ from by rw [HU2.out]; exact O), (show Aside _ from G)⟩ : ∃ k2 : Nat, k2 ≤ l.length ∧ l.length - k2 ≤ l.length - (k + 1) ∧ V = .int .i64 k2 ∧ Aside (SlI W X (insAll (unitsIn (l.take k2) id day))) ∧ Aside (Grew w W)))
    have HT2 := Lib.hid ht
    clear ht kI
    cases hq1 : (ya == id)
    · have hE : U2 = U := by rw [HT2.out, hq1]; simp
      subst hE
      go_wp2
      go_roundg (l.length - (k + 1))
      case measure => omega
      case rel => exact HRel.out _ _ _ OW.out BW.out (by go_num)
    cases q
    · have hE : U2 = U := by rw [HT2.out, hq1]; simp
      subst hE
      go_wp2_with fail
      refine (KI.out _).mono ?_
      rintro e w4 ⟨rfl, g4⟩
      have HG4 := Lib.hid g4
      clear g4
      dsimp only
      go_wp2
      go_roundg (l.length - (k + 1))
      case measure => omega
      case rel => exact HRel.out _ _ _ (OW.out.mono HG4.out) (BW.out.trans HG4.out) (by go_num)
    · have hE : U2 = insU yu U := by rw [HT2.out, hq1]; simp
      subst hE
      go_wp2_with fail
      refine (KI.out _).mono ?_
      rintro e w4 ⟨rfl, g4⟩
      have f0 := keep_cell g4 c0
      have KC := Lib.hid (refInsert U yu u12 w4 (OW.out.mono g4) (by omega))
      have HG4 := Lib.hid (BW.out.trans g4)
      clear g4 c0 c1 c2 c3 c4
      dsimp only
      go_wp2_with fail
      refine KC.out.mono ?_
      rintro e w5 ⟨v5, rfl, s5, g5⟩
      have S5 := Lib.hid s5
      have HG5 := Lib.hid (HG4.out.trans g5)
      clear s5 g5 f0
      dsimp only
      go_wp2
      go_roundg (l.length - (k + 1))
      case measure => omega
      case rel => exact HRel.out _ _ _ S5.out HG5.out (by go_num)
end Go.Proofs.YtfghbendiofbeaaGreatDoor
