/- Lemmas on what the functions of the program and of the library compute: B1. The conditions stand at each. -/
import Derived.Test.YtfghbendiofbeaaGreatDoorQ8
/- relation: same, order, alone, right, walked. The condition: the library's own variables hold what they must. -/
namespace Go.Proofs.YtfghbendiofbeaaGreatDoor
open Go.RowKit

theorem rSame (a b : Rel) (w : World) : Calls Tryz.prog 43 #[a.agg, b.agg] w fun e w' => e = .returned (.bool (sameR a b)) ∧ Grew w w' := by
  unfold Rel.agg sameR
  cases a1 : (a.unit == b.unit) <;> cases a2 : (a.role == b.role) <;> cases a3 : (a.auth == b.auth)
  all_goals
    go_enter Tryz.func43, Tryz.ntmps43
    go_wp2
    go_ret
    exact ⟨rfl, ((Grew.refl w).alloc _).alloc _⟩
set_option maxHeartbeats 1000000 in
set_option maxRecDepth 100000 in
theorem rOrder (a b : Rel) (w : World) : Calls Tryz.prog 42 #[a.agg, b.agg] w fun e w' => e = .returned (.int .i64 (orderR a b)) ∧ Grew w w' := by
  unfold Rel.agg orderR
  have h1 := Tryz.cmp_Compare_int a.unit b.unit
  have h2 := Tryz.cmp_Compare_int a.role b.role
  have h3 := Tryz.cmp_Compare_int a.auth b.auth
  have h4 := Tryz.cmp_Compare_int a.fr b.fr
  generalize Lib.compareInt a.unit b.unit = x1 at h1 ⊢
  generalize Lib.compareInt a.role b.role = x2 at h2 ⊢
  generalize Lib.compareInt a.auth b.auth = x3 at h3 ⊢
  generalize Lib.compareInt a.fr b.fr = x4 at h4 ⊢
  have H1 := Lib.hid h1
  have H2 := Lib.hid h2
  have H3 := Lib.hid h3
  have H4 := Lib.hid h4
  clear h1 h2 h3 h4
  have hs : ∀ W : World, SlI (W.alloc (.cells #[.int .i64 x1, .int .i64 x2, .int .i64 x3, .int .i64 x4] 3)).drew (.slice (some ⟨W.heap.size, 0, none⟩) 4 4) [x1, x2, x3, x4] := fun W => Rd.mono (Rd.fresh W _ 1 4 [.int .i64 x1, .int .i64 x2, .int .i64 x3, .int .i64 x4] rfl (by decide)) ((Grew.refl _).drew)
  have HS := Lib.hid hs
  clear hs
  go_enter Tryz.func42, Tryz.ntmps42
  go_wp2
  refine region_still_tail 22 (by kernel_rfl) (by kernel_rfl) ?_
  simp only [List.take_succ_cons, List.take_zero, List.drop_succ_cons, List.drop_zero]
  iterate 4 still_step
  refine wpStill_step (fun K hK => ?_)
  go_simp
  refine ⟨.int .i64 x1, H1.out _, hK _ ?_⟩
  clear hK K
  iterate 4 still_step
  refine wpStill_step (fun K hK => ?_)
  go_simp
  refine ⟨.int .i64 x2, H2.out _, hK _ ?_⟩
  clear hK K
  iterate 4 still_step
  refine wpStill_step (fun K hK => ?_)
  go_simp
  refine ⟨.int .i64 x3, H3.out _, hK _ ?_⟩
  clear hK K
  iterate 6 still_step
  refine wpStill_step (fun K hK => ?_)
  go_simp
  refine ⟨.int .i64 x4, H4.out _, hK _ ?_⟩
  clear hK K
  refine wpStill_nil ?_
  go_wp2_with fail
  refine (cmpOr_any [x1, x2, x3, x4] _ _ ?_).mono ?_
  · have := HS.out ((w.alloc (.cells #[.int .i64 a.unit, .int .i64 a.role, .int .i64 a.auth, .int .i64 a.fr, .int .i64 a.un] 27)).alloc (.cells #[.int .i64 b.unit, .int .i64 b.role, .int .i64 b.auth, .int .i64 b.fr, .int .i64 b.un] 27))
    simpa using this
  rintro e w1 ⟨rfl, rfl⟩
  go_wp2
  go_ret
  exact ⟨rfl, ((((Grew.refl w).alloc _).alloc _).alloc _).drew⟩
theorem rRight (l : List Auth) (v : Value) (w : World) (hE : Env w) (hv : SlAu w v l) : Calls Tryz.prog 40 #[v] w fun e w' => e = .returned (.bool (decide (AuthRight l))) ∧ Grew w w' := by
  have K := Lib.hid (auCheck_any l v w hE hv)
  by_cases h : AuthRight l
  · rw [decide_eq_true h]
    have H := Lib.hid h
    clear hE hv h
    go_enter Tryz.func40, Tryz.ntmps40
    go_wp2_with fail
    refine K.out.mono ?_
    rintro e w1 ⟨i, n, rfl, hn, g⟩
    obtain rfl := hn.2 H.out
    clear hn
    dsimp only
    go_wp2
    go_ret
    exact ⟨rfl, g⟩
  · rw [decide_eq_false h]
    have H := Lib.hid h
    clear hE hv h
    go_enter Tryz.func40, Tryz.ntmps40
    go_wp2_with fail
    refine K.out.mono ?_
    rintro e w1 ⟨i, n, rfl, hn, g⟩
    have hz : (n == 0) = false := by rw [beq_eq_false_iff_ne]; exact fun e => H.out (hn.1 e)
    clear hn
    dsimp only
    go_wp2
    go_ret
    exact ⟨rfl, g⟩
set_option maxHeartbeats 2000000 in
theorem rAlone (a : List Auth) (x : Rel) (v : Value) (w : World) (hv : SlAu w v a) (hf : FewAu a) : Calls Tryz.prog 41 #[v, x.agg] w fun e w' => e = .returned (.int .i64 (relAlone a x)) ∧ Grew w w' := by
  unfold Rel.agg relAlone
  obtain ⟨xu, xr, xa, xf, xn⟩ := x
  dsimp only
  have kF := fun W (hW : Grew w W) => auFind_any a xa v W (hv.mono hW) hf
  generalize auFind a xa = o at kF ⊢
  have KF := Lib.hid kF
  have kw1 := rWithin xu 1 1073741824
  have kw2 := rWithin xr 1 4
  have ks := rSpans xf xn
  generalize within xu 1 1073741824 = q1 at kw1 ⊢
  generalize within xr 1 4 = q2 at kw2 ⊢
  generalize spansF xf xn = q3 at ks ⊢
  have KW1 := Lib.hid kw1
  have KW2 := Lib.hid kw2
  have KS := Lib.hid ks
  clear kF kw1 kw2 ks hv hf
  cases q1 with
  | false =>
    go_enter Tryz.func41, Tryz.ntmps41
    go_wp2_with fail
    refine (KW1.out _).mono ?_
    rintro e w1 ⟨rfl, rfl⟩
    dsimp only
    go_wp2
    go_ret
    exact ⟨rfl, (Grew.refl w).alloc _⟩
  | true =>
  cases q2 with
  | false =>
    go_enter Tryz.func41, Tryz.ntmps41
    go_wp2_with fail
    refine (KW1.out _).mono ?_
    rintro e w1 ⟨rfl, rfl⟩
    dsimp only
    go_wp2_with fail
    refine (KW2.out _).mono ?_
    rintro e w1 ⟨rfl, rfl⟩
    dsimp only
    go_wp2
    go_ret
    exact ⟨rfl, (Grew.refl w).alloc _⟩
  | true =>
  cases q3 with
  | false =>
    go_enter Tryz.func41, Tryz.ntmps41
    go_wp2_with fail
    refine (KW1.out _).mono ?_
    rintro e w1 ⟨rfl, rfl⟩
    dsimp only
    go_wp2_with fail
    refine (KW2.out _).mono ?_
    rintro e w1 ⟨rfl, rfl⟩
    dsimp only
    go_wp2_with fail
    refine (KS.out _).mono ?_
    rintro e w2 ⟨rfl, g2⟩
    dsimp only
    go_wp2
    go_ret
    exact ⟨rfl, ((Grew.refl w).alloc _).trans g2⟩
  | true =>
  simp only [Bool.and_self, if_true]
  have fin : ∀ R, RowKit.Hid (whoFault o xr xf xn = R) → Calls Tryz.prog 41 #[v, .agg #[.int .i64 xu, .int .i64 xr, .int .i64 xa, .int .i64 xf, .int .i64 xn]] w fun e w' => e = .returned (.int .i64 R) ∧ Grew w w' := by
    intro R HR
    go_enter Tryz.func41, Tryz.ntmps41
    go_wp2_with fail
    refine (KW1.out _).mono ?_
    rintro e w1 ⟨rfl, rfl⟩
    dsimp only
    go_wp2_with fail
    refine (KW2.out _).mono ?_
    rintro e w1 ⟨rfl, rfl⟩
    dsimp only
    go_wp2_with fail
    refine (KS.out _).mono ?_
    rintro e w2 ⟨rfl, g2⟩
    have e1 := new_cell g2 1 _ rfl
    have e2 := new_cell g2 2 _ rfl
    have e3 := new_cell g2 3 _ rfl
    have e4 := new_cell g2 4 _ rfl
    have HG2 := Lib.hid g2
    clear g2
    dsimp only
    go_wp2_with fail
    refine (KF.out _ (((Grew.refl w).alloc _).trans HG2.out)).mono ?_
    rintro e w3 ⟨A1, n1, d1, A2, n2, d2, rfl, g3⟩
    have hz : w.heap.size < w2.heap.size := World.block_lt_of_cell? w2 _ e1
    have f1 := (g3.cell (p := ⟨w.heap.size, 1, none⟩) hz).trans e1
    have f3 := (g3.cell (p := ⟨w.heap.size, 3, none⟩) hz).trans e3
    have f4 := (g3.cell (p := ⟨w.heap.size, 4, none⟩) hz).trans e4
    have HG3 := Lib.hid ((((Grew.refl w).alloc _).trans HG2.out).trans g3)
    clear g3 e1 e2 e3 e4 hz
    have hz3 : w.heap.size < w3.heap.size := World.block_lt_of_cell? w3 _ f1
    have hne : w.heap.size ≠ w3.heap.size := by omega
    cases o with
    | none =>
      obtain rfl : 7 = R := HR.out
      dsimp only [Option.getD, Option.isSome, au0]
      cases a1 : decide ((0 : Int) ≤ xf) <;> cases a2 : decide (xn ≤ (0 : Int))
      all_goals
        go_wp2
        go_ret
        exact ⟨rfl, HG3.out.alloc _⟩
    | some y =>
      obtain ⟨yi, yk, yf, yu, yn, yx⟩ := y
      have hR := HR.out
      unfold whoFault at hR
      dsimp only at hR
      dsimp only [Option.getD, Option.isSome]
      cases a1 : decide (yf ≤ xf) <;> cases a2 : decide (xn ≤ yu) <;> cases a3 : (xr != 3) <;> cases a4 : (yk == 3)
      all_goals
        have HQ : RowKit.Hid (R = if (xr != 3) && ((yk == 3) || !(decide (yf ≤ xf) && decide (xn ≤ yu))) then 10 else 0) := (by
          show R = _
          rw [← hR]
          by_cases b1 : xr = 3 <;> by_cases b2 : yk = 3 <;> by_cases b3 : yf ≤ xf <;> by_cases b4 : xn ≤ yu <;> simp [b1, b2, b3, b4])
        rw [a1, a2, a3, a4] at HQ
        have HE := HQ.out
        simp at HE
        subst HE
        clear hR HQ HR
        go_wp2
        go_ret
        exact ⟨rfl, HG3.out.alloc _⟩
  exact fin _ rfl
end Go.Proofs.YtfghbendiofbeaaGreatDoor
