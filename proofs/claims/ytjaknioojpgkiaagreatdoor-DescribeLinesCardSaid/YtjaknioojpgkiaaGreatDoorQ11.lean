/- Lemmas on what the functions of the program and of the library compute: I1, I2, I3. The conditions stand at each. -/
import Derived.Test.YtjaknioojpgkiaaGreatDoorQ1
import Derived.Test.YtjaknioojpgkiaaGreatDoorQ10
import Derived.Test.YtjaknioojpgkiaaGreatDoorQ7
import Derived.Test.YtjaknioojpgkiaaGreatDoorQ4
import Derived.Test.YtjaknioojpgkiaaGreatDoorQ6
/- inherit: the errors of an element, a language, a unit; the first error. No condition but what a slice can be. -/
namespace Go.Proofs.YtjaknioojpgkiaaGreatDoor
open Go.RowKit

theorem word_empty (n : Int) : (kindOf n).word.toList.isEmpty = !isEl n := by
  by_cases h : isEl n = true
  · rcases isEl_cases h with rfl | rfl | rfl | rfl | rfl | rfl | rfl | rfl <;> decide +kernel
  · have hn : isEl n = false := by simpa using h
    have hk : kindOf n = kind0 := by
      unfold kindOf
      rw [hn]
      rfl
    rw [hk, hn]
    decide +kernel
theorem iNumber (n : Int) (w : World) : Calls Tryz.prog 91 #[.int .i64 n] w fun e w' => e = .returned (.int .i64 (numI n)) ∧ Grew w w' := by
  have hw := word_any n w
  have he := word_empty n
  generalize (kindOf n).word = wd at hw he
  unfold numI
  cases h : isEl n with
  | true =>
    rw [h] at he
    rw [if_pos rfl]
    have he2 : wd.toList.isEmpty = false := he
    go_enter Tryz.func91, Tryz.ntmps91
    go_wp2_with (go_at_call 35; refine hw.mono ?_; rintro e w1 ⟨rfl, g1⟩)
    go_ret
    exact ⟨rfl, g1⟩
  | false =>
    rw [h] at he
    rw [if_neg (by decide)]
    have he2 : wd.toList.isEmpty = true := he
    go_enter Tryz.func91, Tryz.ntmps91
    go_wp2_with (go_at_call 35; refine hw.mono ?_; rintro e w1 ⟨rfl, g1⟩)
    go_ret
    exact ⟨rfl, g1⟩
theorem iFirst1 (x : Int) (w : World) : Calls Tryz.prog 136 #[.int .i64 x] w fun e w' => e = .returned (.bool (x != 0)) ∧ Grew w w' := by
  go_enter Tryz.func136, Tryz.ntmps136
  go_wp2
  go_ret
  exact ⟨rfl, Grew.refl w⟩
theorem enters_iFirst1 : ∀ args w, (callFunc 136 args).run Tryz.prog w = .ok (.enter 136 args) w := enters_of Tryz.func136 (by kernel_rfl) rfl
theorem orF_noneI {l : List Int} (h : ∀ i (hi : i < l.length), (l[i] != 0) = false) : orF l = 0 := by
  induction l with
  | nil => rfl
  | cons x r ih =>
    have h0 := h 0 (by simp)
    simp only [List.getElem_cons_zero, bne_eq_false_iff_eq] at h0
    unfold orF
    rw [if_pos h0]
    exact ih fun i hi => by have := h (i + 1) (by simpa using hi); simpa using this
theorem orF_first {l : List Int} {k : Nat} (hk : k < l.length) (hx : (l[k] != 0) = true) (h : ∀ i (hi : i < l.length), i < k → (l[i] != 0) = false) : orF l = l[k] := by
  induction l generalizing k with
  | nil => exact absurd hk (Nat.not_lt_zero _)
  | cons x r ih =>
    unfold orF
    cases k with
    | zero =>
      simp only [List.getElem_cons_zero, bne_iff_ne, ne_eq] at hx
      rw [if_neg hx]
      rfl
    | succ k =>
      have h0 := h 0 (by simp) (by omega)
      simp only [List.getElem_cons_zero, bne_eq_false_iff_eq] at h0
      rw [if_pos h0]
      simp only [List.getElem_cons_succ] at hx ⊢
      exact ih (by simpa using hk) hx fun i hi hik => by have := h (i + 1) (by simpa using hi) (by omega); simpa using this
set_option maxHeartbeats 1000000 in
theorem iFirst (l : List Int) (v : Value) (w : World) (hv : SlI w v l) : Calls Tryz.prog 89 #[v] w fun e w' => e = .returned (.int .i64 (orF l)) ∧ Grew w w' := by
  have hix := indexFuncE l (fun x => x != 0) _ #[] enters_iFirst1 v w hv (fun W x _ _ => by rw [show (#[Value.int .i64 x] ++ #[] : Array Value) = #[.int .i64 x] by simp]; exact iFirst1 x W)
  obtain ⟨A, c, rfl, hlc, hc, hr⟩ := hv.open_
  by_cases hany : l.any (fun x => x != 0) = true
  · obtain ⟨m, hm, h1, h2⟩ := idxP_find (fun x => x != 0) l hany
    rw [idxP_hit (fun x => x != 0) l m hm h1 h2] at hix
    have hres := orF_first hm h1 h2
    generalize orF l = R at hres ⊢
    have HRES := Lib.hid hres
    have HIX := Lib.hid hix
    obtain ⟨b, off, rfl, hb, hcell⟩ := hr (by omega)
    have hlz : (m : Int) < (l.length : Int) := by omega
    have h0z : (0 : Int) ≤ (m : Int) := by omega
    have hnz : ¬ (m : Int) < 0 := by omega
    clear hany h1 h2 hres hix hv hr
    go_enter Tryz.func89, Tryz.ntmps89
    go_wp2_with fail
    refine HIX.out.mono ?_
    rintro e w1 ⟨rfl, g1⟩
    have c0 := hcell w1 g1 m hm
    generalize hy : l[m] = y at c0
    obtain rfl : R = y := HRES.out.trans hy
    clear hcell hy HRES
    dsimp only
    go_wp2
    go_ret
    exact ⟨rfl, g1⟩
  · have h2 : ∀ i (hi : i < l.length), (l[i] != 0) = false := fun i hi => by
      cases h : (l[i] != 0) with
      | false => rfl
      | true => exact absurd (List.any_eq_true.2 ⟨l[i], List.getElem_mem hi, h⟩) hany
    rw [idxP_miss (fun x => x != 0) l h2] at hix
    rw [orF_noneI h2]
    have HIX := Lib.hid hix
    clear hany h2 hix hv hr
    go_enter Tryz.func89, Tryz.ntmps89
    go_wp2_with fail
    refine HIX.out.mono ?_
    rintro e w1 ⟨rfl, g1⟩
    dsimp only
    go_wp2
    go_ret
    exact ⟨rfl, g1⟩
end Go.Proofs.YtjaknioojpgkiaaGreatDoor

/- inherit: whether a unit is there, the state of right arguments. The conditions: the library's own variables hold what they must; the lists are short. -/
namespace Go.Proofs.YtjaknioojpgkiaaGreatDoor
open Go.RowKit

theorem iLanguage (s : ByteArray) (w : World) : Calls Tryz.prog 92 #[.string s] w fun e w' => e = .returned (.int .i64 (lanI s)) ∧ Grew w w' := by
  unfold lanI
  by_cases h : s.size = 2
  · have hl : s.data.toList.length = 2 := by rw [← h]; cases s; rfl
    rw [← lang_trim _ hl]
    have hb : ((s.size : Int) != 2) = false := by simp; omega
    have hs : s.size ≤ 9223372036854775807 := by omega
    have ht := fun w => Tryz.strings_Trim s ⟨#[97, 98, 99, 100, 101, 102, 103, 104, 105, 106, 107, 108, 109, 110, 111, 112, 113, 114, 115, 116, 117, 118, 119, 120, 121, 122]⟩ w hs (by decide) ascii_az
    rw [azBA] at ht
    generalize Lib.trimS s.data.toList azL = T at ht ⊢
    have HT := Lib.hid ht
    clear ht hl h
    cases T with
    | nil =>
      rw [if_pos (by decide)]
      go_enter Tryz.func92, Tryz.ntmps92
      go_wp2_with (first | (go_at_call 123; refine (HT.out _).mono ?_; rintro e w1 ⟨rfl, hg⟩))
      go_ret
      exact ⟨rfl, hg⟩
    | cons a r =>
      rw [if_neg (by simp)]
      go_enter Tryz.func92, Tryz.ntmps92
      go_wp2_with (first | (go_at_call 123; refine (HT.out _).mono ?_; rintro e w1 ⟨rfl, hg⟩))
      go_ret
      exact ⟨rfl, hg⟩
  · have hl : s.data.toList.length ≠ 2 := by intro e; apply h; rw [← e]; cases s; rfl
    rw [lang_len _ hl]
    have hb : ((s.size : Int) != 2) = true := by simp; omega
    clear hl h
    go_enter Tryz.func92, Tryz.ntmps92
    go_wp2
    go_ret
    exact ⟨rfl, Grew.refl w⟩
set_option maxHeartbeats 1000000 in
theorem iHas (l : List Br) (u : Int) (rv bv lv vv : Value) (w : World) (hv : SlBr w bv l) : Calls Tryz.prog 90 #[.agg #[rv, bv, lv, vv], .int .i64 u] w fun e w' => e = .returned (.int .i64 (if (brFind l u).isSome = true then 0 else 7)) ∧ Grew w w' := by
  have kF := fun W (hW : Grew w W) => tFind l u rv bv W (hv.mono hW)
  unfold TFindEnd at kF
  generalize (brFind l u).getD br0 = f at kF
  have KF := Lib.hid kF
  clear kF hv
  cases hq : (brFind l u).isSome with
  | true =>
    rw [if_pos rfl]
    rw [hq] at KF
    go_enter Tryz.func90, Tryz.ntmps90
    go_wp2_with fail
    refine (KF.out _ ((Grew.refl w).alloc _)).mono ?_
    rintro e w1 ⟨rfl, g1⟩
    have HG := Lib.hid (((Grew.refl w).alloc _).trans g1)
    clear g1
    dsimp only
    go_wp2
    go_ret
    exact ⟨rfl, HG.out.alloc _⟩
  | false =>
    rw [if_neg (by decide)]
    rw [hq] at KF
    go_enter Tryz.func90, Tryz.ntmps90
    go_wp2_with fail
    refine (KF.out _ ((Grew.refl w).alloc _)).mono ?_
    rintro e w1 ⟨rfl, g1⟩
    have HG := Lib.hid (((Grew.refl w).alloc _).trans g1)
    clear g1
    dsimp only
    go_wp2
    go_ret
    exact ⟨rfl, HG.out.alloc _⟩
end Go.Proofs.YtjaknioojpgkiaaGreatDoor

/- inherit.of: the state of right arguments, or the error. The conditions: the library's own variables hold what they must; the lists are short. -/
namespace Go.Proofs.YtjaknioojpgkiaaGreatDoor
open Go.RowKit

theorem heap_newI (a : World) (p : Obj) : (a.alloc p).heap[a.heap.size]? = some p := World.alloc_heap_new a p
theorem heap_keepI {W W' : World} (g : Grew W W') {X : Nat} {o : Obj} (h : W.heap[X]? = some o) : W'.heap[X]? = some o := by
  have hx := (Array.getElem?_eq_some_iff.1 h).1
  exact (g.block X hx).trans h
theorem four_cells {W : World} {P : Nat} {t : TypeId} {x0 x1 x2 x3 : Value} (h : W.heap[P]? = some (.cells #[x0, x1, x2, x3] t (0, 0))) : (W.cell? ⟨P, 0, none⟩ = some x0 ∧ W.cell? ⟨P, 1, none⟩ = some x1 ∧ W.cell? ⟨P, 2, none⟩ = some x2 ∧ W.cell? ⟨P, 3, none⟩ = some x3) ∧ W.frozen? ⟨P, 0, none⟩ = false ∧ W.frozen? ⟨P, 1, none⟩ = false ∧ W.frozen? ⟨P, 2, none⟩ = false ∧ W.frozen? ⟨P, 3, none⟩ = false := by
  simp [World.cell?, World.frozen?, h]
theorem two_cells {W : World} {P : Nat} {t : TypeId} {x0 x1 : Value} (h : W.heap[P]? = some (.cells #[x0, x1] t (0, 0))) : W.cell? ⟨P, 0, none⟩ = some x0 ∧ W.cell? ⟨P, 1, none⟩ = some x1 := by
  simp [World.cell?, h]
/-- A box of four cells behind the store of a struct. -/
theorem res_four {W : World} {P : Nat} {v0 v1 v2 v3 x0 x1 x2 x3 : Value} (h0 : W.cell? ⟨P, 0, none⟩ = some x0) (h1 : W.cell? ⟨P, 1, none⟩ = some x1) (h2 : W.cell? ⟨P, 2, none⟩ = some x2) (h3 : W.cell? ⟨P, 3, none⟩ = some x3) :
    ((((W.setCell ⟨P, 0, none⟩ v0).setCell ⟨P, 1, none⟩ v1).setCell ⟨P, 2, none⟩ v2).setCell ⟨P, 3, none⟩ v3).cell? ⟨P, 0, none⟩ = some v0 ∧ ((((W.setCell ⟨P, 0, none⟩ v0).setCell ⟨P, 1, none⟩ v1).setCell ⟨P, 2, none⟩ v2).setCell ⟨P, 3, none⟩ v3).cell? ⟨P, 1, none⟩ = some v1 ∧ ((((W.setCell ⟨P, 0, none⟩ v0).setCell ⟨P, 1, none⟩ v1).setCell ⟨P, 2, none⟩ v2).setCell ⟨P, 3, none⟩ v3).cell? ⟨P, 2, none⟩ = some v2 ∧ ((((W.setCell ⟨P, 0, none⟩ v0).setCell ⟨P, 1, none⟩ v1).setCell ⟨P, 2, none⟩ v2).setCell ⟨P, 3, none⟩ v3).cell? ⟨P, 3, none⟩ = some v3 := by
  refine ⟨?_, ?_, ?_, ?_⟩
  · rw [World.cell?_setCell_other _ _ _ _ (by simp), World.cell?_setCell_other _ _ _ _ (by simp), World.cell?_setCell_other _ _ _ _ (by simp)]
    exact World.cell?_setCell_same' _ _ _ (by rw [h0]; rfl)
  · rw [World.cell?_setCell_other _ _ _ _ (by simp), World.cell?_setCell_other _ _ _ _ (by simp)]
    exact World.cell?_setCell_same' _ _ _ (by rw [World.cell?_setCell_other _ _ _ _ (by simp), h1]; rfl)
  · rw [World.cell?_setCell_other _ _ _ _ (by simp)]
    exact World.cell?_setCell_same' _ _ _ (by rw [World.cell?_setCell_other _ _ _ _ (by simp), World.cell?_setCell_other _ _ _ _ (by simp), h2]; rfl)
  · exact World.cell?_setCell_same' _ _ _ (by rw [World.cell?_setCell_other _ _ _ _ (by simp), World.cell?_setCell_other _ _ _ _ (by simp), World.cell?_setCell_other _ _ _ _ (by simp), h3]; rfl)
theorem grew_four {w W : World} {P : Nat} (g : Grew w W) (h : w.heap.size ≤ P) (v0 v1 v2 v3 : Value) : Grew w ((((W.setCell ⟨P, 0, none⟩ v0).setCell ⟨P, 1, none⟩ v1).setCell ⟨P, 2, none⟩ v2).setCell ⟨P, 3, none⟩ v3) := (((g.setCell h _).setCell h _).setCell h _).setCell h _
/-- What of returns: the state, or nothing and an error. -/
def RetSt (n : Int) (rv bv lv vv : Value) (w : World) (e : Ending) (w' : World) : Prop :=
  e = .returned (.tuple #[if n = 0 then .agg #[rv, bv, lv, vv] else .agg #[.slice none 0 0, .slice none 0 0, .slice none 0 0, .slice none 0 0], .int .i64 n]) ∧ Grew w w'
set_option maxHeartbeats 4000000 in
set_option maxRecDepth 100000 in
theorem iOf (t : Tr) (ls : List ByteArray) (vs : List Val) (rv bv lv vv : Value) (w : World) (hE : Env w) (hr : SlI w rv t.roots) (hv : SlBr w bv t.brs) (hf : FewBr t.brs) (hrl : t.roots.length ≤ 1000000) (hl : SlS w lv ls) (hvv : SlV w vv vs) :
    Calls Tryz.prog 83 #[.agg #[rv, bv], lv, vv] w (RetSt (ofI t ls vs) rv bv lv vv w) := by
  have KT := Lib.hid (fun W (hW : Grew w W) => tCheckX t.roots t.brs rv bv W (hE.mono hW) (hr.mono hW) (hv.mono hW) hf hrl)
  have kV := fun W (hW : Grew w W) => check_any ls vs lv vv W (hl.mono hW) (hvv.mono hW)
  have h1 : RightT t → (checkF ls vs).2 = 0 → ofI t ls vs = 0 := fun a b => by
    unfold ofI
    rw [if_pos ⟨a, b⟩]
  have h2 : ¬ (RightT t ∧ (checkF ls vs).2 = 0) → ofI t ls vs = 1 := fun a => by
    unfold ofI
    rw [if_neg a]
  generalize ofI t ls vs = N at h1 h2 ⊢
  generalize checkF ls vs = CV at kV h1 h2
  obtain ⟨c1, c2⟩ := CV
  dsimp only at kV h1 h2
  have H1 := Lib.hid h1
  have H2 := Lib.hid h2
  have KV := Lib.hid kV
  obtain ⟨Ar, cr, rfl, -⟩ := hr.open_
  obtain ⟨Ab, cb, rfl, -⟩ := hv.open_
  obtain ⟨Al, cl, rfl, -⟩ := hl.open_
  obtain ⟨Av, cv, rfl, -⟩ := hvv.open_
  clear kV h1 h2 hE hr hv hf hrl hl hvv
  have HB := Lib.hid (show ∀ W, Grew ((w.alloc (.cells [.slice Ar t.roots.length cr, .slice Ab t.brs.length cb].toArray 25)).alloc (.cells [.slice none 0 0, .slice none 0 0, .slice none 0 0, .slice none 0 0].toArray 114)) W → W.heap[w.heap.size]? = some (.cells #[.slice Ar t.roots.length cr, .slice Ab t.brs.length cb] 25 (0, 0)) ∧ W.heap[w.heap.size + 1]? = some (.cells #[.slice none 0 0, .slice none 0 0, .slice none 0 0, .slice none 0 0] 114 (0, 0)) from fun W g => by
    have e1 := heap_newI w (.cells [.slice Ar t.roots.length cr, .slice Ab t.brs.length cb].toArray 25)
    have e2 := heap_newI (w.alloc (.cells [.slice Ar t.roots.length cr, .slice Ab t.brs.length cb].toArray 25)) (.cells [.slice none 0 0, .slice none 0 0, .slice none 0 0, .slice none 0 0].toArray 114)
    rw [World.size_alloc] at e2
    exact ⟨heap_keepI (((Grew.refl _).alloc _).trans g) e1, heap_keepI g e2⟩)
  have GA := Lib.hid (((Grew.refl w).alloc (.cells [.slice Ar t.roots.length cr, .slice Ab t.brs.length cb].toArray 25)).alloc (.cells [.slice none 0 0, .slice none 0 0, .slice none 0 0, .slice none 0 0].toArray 114))
  go_enter Tryz.func83, Tryz.ntmps83
  go_wp2_with fail
  generalize (w.alloc (.cells [.slice Ar t.roots.length cr, .slice Ab t.brs.length cb].toArray 25)).alloc (.cells [.slice none 0 0, .slice none 0 0, .slice none 0 0, .slice none 0 0].toArray 114) = WA at GA HB ⊢
  refine (KT.out _ GA.out).mono ?_
  rintro e w1 ⟨i1, n1, rfl, hn1, -, -, g1⟩
  have G1 := Lib.hid g1
  have HN1 := Lib.hid hn1
  clear g1 hn1
  dsimp only
  go_wp2_with fail
  refine (KV.out _ (GA.out.trans G1.out)).mono ?_
  rintro e w2 ⟨rfl, g2⟩
  have G2 := Lib.hid (G1.out.trans g2)
  have HG2 := Lib.hid (GA.out.trans G2.out)
  obtain ⟨x0, x1⟩ := two_cells (HB.out w2 G2.out).1
  obtain ⟨⟨q0, q1, q2, q3⟩, z0, z1, z2, z3⟩ := four_cells (HB.out w2 G2.out).2
  clear g2 G1 KT KV
  dsimp only
  by_cases hz : n1 = 0 ∧ c2 = 0
  · obtain ⟨rfl, rfl⟩ := hz
    obtain rfl := H1.out (HN1.out.1 rfl) rfl
    clear HN1 H1 H2
    go_wp2_with fail
    obtain ⟨p0, p1, p2, p3⟩ := res_four (v0 := .slice Ar t.roots.length cr) (v1 := .slice Ab t.brs.length cb) (v2 := .slice Al ls.length cl) (v3 := .slice Av vs.length cv) q0 q1 q2 q3
    refine bodyPost_ret (v := .tuple #[.agg #[.slice Ar t.roots.length cr, .slice Ab t.brs.length cb, .slice Al ls.length cl, .slice Av vs.length cv], .int .i64 0]) (by simp [results, Tryz.results83, go_sem, p0, p1, p2, p3]) rfl ?_
    exact ⟨rfl, grew_four HG2.out (by omega) _ _ _ _⟩
  · obtain rfl := H2.out (fun h => hz ⟨HN1.out.2 h.1, h.2⟩)
    have hcase : (n1 != 0) = true ∨ ((n1 != 0) = false ∧ (c2 != 0) = true) := by
      by_cases h : n1 = 0
      · exact .inr ⟨by simpa using h, by simpa using fun h2 => hz ⟨h, h2⟩⟩
      · exact .inl (by simpa using h)
    clear HN1 H1 H2 hz
    rcases hcase with hb | ⟨hb, hc⟩
    · go_wp2_with fail
      obtain ⟨p0, p1, p2, p3⟩ := res_four (v0 := .slice none 0 0) (v1 := .slice none 0 0) (v2 := .slice none 0 0) (v3 := .slice none 0 0) q0 q1 q2 q3
      refine bodyPost_ret (v := .tuple #[.agg #[.slice none 0 0, .slice none 0 0, .slice none 0 0, .slice none 0 0], .int .i64 1]) (by simp [results, Tryz.results83, go_sem, p0, p1, p2, p3]) rfl ?_
      exact ⟨rfl, grew_four HG2.out (by omega) _ _ _ _⟩
    · go_wp2_with fail
      obtain ⟨p0, p1, p2, p3⟩ := res_four (v0 := .slice none 0 0) (v1 := .slice none 0 0) (v2 := .slice none 0 0) (v3 := .slice none 0 0) q0 q1 q2 q3
      refine bodyPost_ret (v := .tuple #[.agg #[.slice none 0 0, .slice none 0 0, .slice none 0 0, .slice none 0 0], .int .i64 1]) (by simp [results, Tryz.results83, go_sem, p0, p1, p2, p3]) rfl ?_
      exact ⟨rfl, grew_four HG2.out (by omega) _ _ _ _⟩
end Go.Proofs.YtjaknioojpgkiaaGreatDoor
