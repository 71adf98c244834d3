/- Lemmas on what the functions of the program and of the library compute: N3. The conditions stand at each. -/
import Derived.Test.YtjaknioojpgkiaaGreatDoorQ36
import Derived.Test.YtjaknioojpgkiaaGreatDoorQ25
import Derived.Test.YtjaknioojpgkiaaGreatDoorQ32
/- describe.value, walked: the error of a value that is to be set. The conditions: the library's own variables hold what they must; the lists are short. -/
namespace Go.Proofs.YtjaknioojpgkiaaGreatDoor
open Go.RowKit

/-- The error of a value that is to be set. -/
noncomputable def valG (t : Tr) (ls : List ByteArray) (vs : List Val) (v : Val) : Int := match brFind t.brs v.unit with
  | none => 7
  | some b => if isEl v.elem = false then 2 else if allowedF v.elem b.level = false then 18 else if inL ls v.lang = false then 10 else if isTextF v.text.data.toList = false then 3
    else if b.parent = 0 then 0 else if (kindOf v.elem).inh = false then 0 else if sameT v.text (foundR t ls vs b.parent v.elem v.lang).1 = true then 6 else 0
theorem valG_E {t : Tr} {ls : List ByteArray} {vs : List Val} (h : ofI t ls vs = 0) (v : Val) : valG t ls vs v = valE t ls vs v := by
  obtain ⟨hT, hR⟩ := ofI_zero.1 h
  unfold valG valE
  cases hb : brFind t.brs v.unit with
  | none => rfl
  | some b =>
    dsimp only
    by_cases h1 : isEl v.elem = false
    · rw [if_pos h1, if_pos h1]
    rw [if_neg h1, if_neg h1]
    by_cases h2 : allowedF v.elem b.level = false
    · rw [if_pos h2, if_pos h2]
    rw [if_neg h2, if_neg h2]
    by_cases h3 : inL ls v.lang = false
    · rw [if_pos h3, if_pos h3]
    rw [if_neg h3, if_neg h3]
    by_cases h4 : isTextF v.text.data.toList = false
    · rw [if_pos h4, if_pos h4]
    rw [if_neg h4, if_neg h4]
    by_cases h5 : b.parent = 0
    · rw [if_pos h5, if_pos (.inl h5)]
    rw [if_neg h5]
    by_cases h6 : (kindOf v.elem).inh = false
    · rw [if_pos h6, if_pos (.inr h6)]
    rw [if_neg h6, if_neg (show ¬ (b.parent = 0 ∨ (kindOf v.elem).inh = false) from fun k => k.elim h5 h6)]
    have hlang : isLangF v.lang.data.toList = true := by
      have h3' : inL ls v.lang = true := by simpa using h3
      unfold inL at h3'
      obtain ⟨y, hy, e⟩ := List.any_eq_true.1 h3'
      have := bytes_inj (beq_iff_eq.1 e)
      rw [this]
      exact lang_of_langs hR.1 hy
    have hask : askI t ls vs b.parent v.elem v.lang = 0 := askI_zero.2 ⟨⟨hT, hR⟩, (up_parent hT b (find_in hb).1).resolve_left h5, by simpa using h1, hlang⟩
    have : (foundR t ls vs b.parent v.elem v.lang).1 = foundF t.brs vs b.parent v.elem v.lang := by
      unfold foundR
      rw [if_pos hask]
    rw [this]
theorem word_some {n : Int} (h : isEl n = true) : ((kindOf n).word.toList == []) = false := by
  rcases isEl_cases h with rfl | rfl | rfl | rfl | rfl | rfl | rfl | rfl <;> decide +kernel
theorem word_none {n : Int} (h : isEl n = false) : (kindOf n).word = ⟨#[]⟩ := by
  unfold kindOf
  rw [h]
  rfl
set_option maxHeartbeats 8000000 in
set_option maxRecDepth 100000 in
theorem dValue (t : Tr) (ls : List ByteArray) (vs : List Val) (v : Val) (rv bv lv vv : Value) (w : World) (hE : Env w) (hr : SlI w rv t.roots) (hv : SlBr w bv t.brs) (hf : FewBr t.brs) (hrl : t.roots.length ≤ 1000000) (hl : SlS w lv ls) (hvv : SlV w vv vs) :
    Calls Tryz.prog 57 #[.agg #[rv, bv], lv, vv, v.agg] w fun e w' => e = .returned (.int .i64 (valG t ls vs v)) ∧ Grew w w' := by
  have kF := fun W (hW : Grew w W) => tFind t.brs v.unit rv bv W (hv.mono hW)
  have kW := fun W => word_any v.elem W
  have kA := fun lev W => allowed_any v.elem lev W
  have kC := fun W (hW : Grew w W) => containsS ls v.lang lv W (hl.mono hW)
  have kT := fun W => isText_any v.text W
  have kI := fun W => inherited_any v.elem W
  have kG := fun u W (hW : Grew w W) => iFoundX t ls vs u v.elem v.lang rv bv lv vv W (hE.mono hW) (hr.mono hW) (hv.mono hW) hf hrl (hl.mono hW) (hvv.mono hW)
  have hw1 : isEl v.elem = true → ((kindOf v.elem).word.toList == []) = false := fun h => word_some h
  have hw2 : isEl v.elem = false → (kindOf v.elem).word = ⟨#[]⟩ := fun h => word_none h
  generalize hRES : valG t ls vs v = RES
  unfold valG at hRES
  unfold TFindEnd at kF
  generalize hbf : brFind t.brs v.unit = bf at kF hRES
  generalize isEl v.elem = el at hw1 hw2 hRES
  generalize (kindOf v.elem).word = wd at kW hw1 hw2
  generalize (kindOf v.elem).inh = inh at kI hRES
  have hinl : (ls.any fun y => (v.lang.toList == y.toList)) = inL ls v.lang := rfl
  rw [hinl] at kC
  generalize inL ls v.lang = il at kC hRES
  generalize isTextF v.text.data.toList = tx at kT hRES
  obtain ⟨vu, ve, vl, vt⟩ := v
  unfold Val.agg
  dsimp only at kF kW kA kC kT kI kG hbf hRES ⊢
  have KF := Lib.hid kF
  have KW := Lib.hid kW
  have KA := Lib.hid kA
  have KC := Lib.hid kC
  have KT := Lib.hid kT
  have KI := Lib.hid kI
  have KG := Lib.hid kG
  obtain ⟨Ar0, cr0, rfl, -⟩ := hr.open_
  obtain ⟨Ab0, cb0, rfl, -⟩ := hv.open_
  clear kF kW kA kC kT kI kG hE hr hv hf hrl hl hvv hbf hinl
  have hb : ∀ W, Grew ((w.alloc (.cells #[.slice Ar0 t.roots.length cr0, .slice Ab0 t.brs.length cb0] 25)).alloc (.cells #[.int .i64 vu, .int .i64 ve, .string vl, .string vt] 29)) W → W.heap[w.heap.size]? = some (.cells #[.slice Ar0 t.roots.length cr0, .slice Ab0 t.brs.length cb0] 25 (0, 0)) ∧ W.heap[w.heap.size + 1]? = some (.cells #[.int .i64 vu, .int .i64 ve, .string vl, .string vt] 29 (0, 0)) := fun W g => by
    have e1 := heap_newI w (.cells #[.slice Ar0 t.roots.length cr0, .slice Ab0 t.brs.length cb0] 25)
    have e2 := heap_newI (w.alloc (.cells #[.slice Ar0 t.roots.length cr0, .slice Ab0 t.brs.length cb0] 25)) (.cells #[.int .i64 vu, .int .i64 ve, .string vl, .string vt] 29)
    rw [World.size_alloc] at e2
    exact ⟨heap_keepI (((Grew.refl _).alloc _).trans g) e1, heap_keepI g e2⟩
  have HB := Lib.hid hb
  have GA := Lib.hid (((Grew.refl w).alloc (.cells #[.slice Ar0 t.roots.length cr0, .slice Ab0 t.brs.length cb0] 25)).alloc (.cells #[.int .i64 vu, .int .i64 ve, .string vl, .string vt] 29))
  clear hb
  obtain ⟨bi, hbi⟩ : ∃ b, b = bf.getD br0 := ⟨_, rfl⟩
  have hbs : bf = if bf.isSome then some bi else none := by cases bf <;> simp_all
  rw [← hbi] at KF
  generalize hs : bf.isSome = s at KF hbs
  clear hbi hs
  rw [hbs] at hRES
  clear hbs
  have HRES := Lib.hid hRES
  clear hRES
  obtain ⟨bi, bp, bl, bt, bm, bk⟩ := bi
  dsimp only at KF
  go_enter Tryz.func57, Tryz.ntmps57
  go_wp2_with fail
  generalize (w.alloc (.cells #[.slice Ar0 t.roots.length cr0, .slice Ab0 t.brs.length cb0] 25)).alloc (.cells #[.int .i64 vu, .int .i64 ve, .string vl, .string vt] 29) = WA at GA HB ⊢
  refine (KF.out _ GA.out).mono ?_
  rintro e w1 ⟨rfl, g1⟩
  have gu := g1.alloc (.cells #[.int .i64 bi, .int .i64 bp, .int .i64 bl, .string bt, .string bm] 54)
  have HU := Lib.hid (show ∀ W, Grew (w1.alloc (.cells #[.int .i64 bi, .int .i64 bp, .int .i64 bl, .string bt, .string bm] 54)) W → W.heap[w1.heap.size]? = some (.cells #[.int .i64 bi, .int .i64 bp, .int .i64 bl, .string bt, .string bm] 54 (0, 0)) from fun W g => heap_keepI g (heap_newI w1 _))
  have GU := Lib.hid gu
  have HGU := Lib.hid (GA.out.trans gu)
  clear g1 gu KF
  dsimp only
  cases s with
  | false =>
    obtain rfl : RES = 7 := by have h := HRES.out; simp at h; first | exact h.symm | exact h | omega
    clear HRES
    go_wp2
    go_ret
    exact ⟨rfl, HGU.out⟩
  | true =>
    obtain ⟨⟨v0, v1, v2, v3⟩, -⟩ := four_cells (HB.out _ GU.out).2
    skip
    go_wp2_with fail
    generalize w1.alloc (.cells #[.int .i64 bi, .int .i64 bp, .int .i64 bl, .string bt, .string bm] 54) = WU at GU HGU HU v0 v1 v2 v3 ⊢
    refine (KW.out _).mono ?_
    rintro e w2 ⟨rfl, g2⟩
    have G2 := Lib.hid g2
    clear v0 v1 v2 v3 g2 KW
    dsimp only
    cases el with
    | false =>
      obtain rfl := hw2 rfl
      clear hw1 hw2
      obtain rfl : RES = 2 := by have h := HRES.out; simp [] at h; first | exact h.symm | exact h | omega
      clear HRES
      go_wp2
      go_ret
      exact ⟨rfl, HGU.out.trans G2.out⟩
    | true =>
      have hwd := hw1 rfl
      clear hw1 hw2
      obtain ⟨⟨v0, v1, v2, v3⟩, -⟩ := four_cells (HB.out _ (GU.out.trans G2.out)).2
      obtain ⟨u0, u1, u2, u3, u4⟩ := five_cells (HU.out _ G2.out)
      go_wp2_with fail
      generalize hal : allowedF ve bl = al
      have ka := KA.out bl
      rw [hal] at ka
      have KA2 := Lib.hid ka
      have HAL := Lib.hid hal
      clear ka hal KA hwd
      refine (KA2.out _).mono ?_
      rintro e w3 ⟨rfl, g3⟩
      have G3 := Lib.hid (G2.out.trans g3)
      clear v0 v1 v2 v3 u0 u1 u2 u3 u4 g3 KA2
      dsimp only
      cases al with
      | false =>
        obtain rfl : RES = 18 := by have h := HRES.out; simp [HAL.out] at h; first | exact h.symm | exact h | omega
        clear HRES
        go_wp2
        go_ret
        exact ⟨rfl, HGU.out.trans G3.out⟩
      | true =>
        obtain ⟨⟨v0, v1, v2, v3⟩, -⟩ := four_cells (HB.out _ (GU.out.trans G3.out)).2
        obtain ⟨u0, u1, u2, u3, u4⟩ := five_cells (HU.out _ G3.out)
        go_wp2_with fail
        refine (KC.out _ (HGU.out.trans G3.out)).mono ?_
        rintro e w4 ⟨rfl, rfl⟩
        clear KC
        dsimp only
        cases il with
        | false =>
          obtain rfl : RES = 10 := by have h := HRES.out; simp [HAL.out] at h; first | exact h.symm | exact h | omega
          clear HRES
          go_wp2
          go_ret
          exact ⟨rfl, HGU.out.trans G3.out⟩
        | true =>
          go_wp2_with fail
          refine (KT.out _).mono ?_
          rintro e w5 ⟨rfl, g5⟩
          have G5 := Lib.hid (G3.out.trans g5)
          clear v0 v1 v2 v3 u0 u1 u2 u3 u4 g5 KT
          dsimp only
          cases tx with
          | false =>
            obtain rfl : RES = 3 := by have h := HRES.out; simp [HAL.out] at h; first | exact h.symm | exact h | omega
            clear HRES
            go_wp2
            go_ret
            exact ⟨rfl, HGU.out.trans G5.out⟩
          | true =>
            obtain ⟨⟨v0, v1, v2, v3⟩, -⟩ := four_cells (HB.out _ (GU.out.trans G5.out)).2
            obtain ⟨u0, u1, u2, u3, u4⟩ := five_cells (HU.out _ G5.out)
            obtain ⟨t0, t1⟩ := two_cells (HB.out _ (GU.out.trans G5.out)).1
            by_cases hp : bp = 0
            · subst hp
              clear KI KG
              obtain rfl : RES = 0 := by have h := HRES.out; simp [HAL.out] at h; first | exact h.symm | exact h | omega
              clear HRES
              go_wp2
              go_ret
              exact ⟨rfl, HGU.out.trans G5.out⟩
            have hpb : (bp == 0) = false := beq_eq_false_iff_ne.2 hp
            go_wp2_with fail
            refine (KI.out _).mono ?_
            rintro e w6 ⟨rfl, g6⟩
            have G6 := Lib.hid (G5.out.trans g6)
            clear v0 v1 v2 v3 u0 u1 u2 u3 u4 t0 t1 g6 KI
            dsimp only
            cases inh with
            | false =>
              obtain rfl : RES = 0 := by have h := HRES.out; simp [HAL.out, hp] at h; first | exact h.symm | exact h | omega
              clear HRES
              go_wp2
              go_ret
              exact ⟨rfl, HGU.out.trans G6.out⟩
            | true =>
              obtain ⟨⟨v0, v1, v2, v3⟩, -⟩ := four_cells (HB.out _ (GU.out.trans G6.out)).2
              obtain ⟨u0, u1, u2, u3, u4⟩ := five_cells (HU.out _ G6.out)
              obtain ⟨t0, t1⟩ := two_cells (HB.out _ (GU.out.trans G6.out)).1
              have kg := KG.out bp
              unfold RetVE at kg
              generalize hfr : foundR t ls vs bp ve vl = R at kg
              obtain ⟨ro, re⟩ := R
              dsimp only at kg
              have HFR := Lib.hid hfr
              clear hfr
              generalize hrs : ro.isSome = rs at kg
              generalize hrx : ro.getD val0 = x at kg
              obtain ⟨xu, xe, xl, xt⟩ := x
              unfold Val.agg at kg
              dsimp only at kg
              have KG2 := Lib.hid kg
              clear kg KG
              go_wp2_with fail
              refine (KG2.out _ (HGU.out.trans G6.out)).mono ?_
              rintro e w7 ⟨rfl, g7⟩
              have gz := g7.alloc (.cells #[.int .i64 xu, .int .i64 xe, .string xl, .string xt] 29)
              have G7 := Lib.hid (G6.out.trans gz)
              obtain ⟨⟨x0, x1, x2, x3⟩, -⟩ := four_cells (heap_newI w7 (.cells #[.int .i64 xu, .int .i64 xe, .string xl, .string xt] 29))
              clear v0 v1 v2 v3 u0 u1 u2 u3 u4 t0 t1 gz g7 KG2
              obtain ⟨⟨v0, v1, v2, v3⟩, -⟩ := four_cells (HB.out _ (GU.out.trans G7.out)).2
              dsimp only
              cases ro with
              | none =>
                obtain rfl : rs = false := hrs.symm
                clear hrs hrx
                obtain rfl : RES = 0 := by have h := HRES.out; simp [HAL.out, hp, HFR.out, sameT] at h; first | exact h.symm | exact h | omega
                clear HRES
                go_wp2
                go_ret
                exact ⟨rfl, HGU.out.trans G7.out⟩
              | some z =>
                obtain rfl : rs = true := hrs.symm
                obtain rfl : z = ⟨xu, xe, xl, xt⟩ := hrx
                clear hrs
                cases hq : (xt.toList == vt.toList) with
                | false =>
                  have hsm : sameT vt (some (⟨xu, xe, xl, xt⟩ : Val)) = false := hq
                  obtain rfl : RES = 0 := by have h := HRES.out; simp [HAL.out, hp, HFR.out, hsm] at h; first | exact h.symm | exact h | omega
                  clear hsm
                  clear HRES
                  go_wp2
                  go_ret
                  exact ⟨rfl, HGU.out.trans G7.out⟩
                | true =>
                  have hsm : sameT vt (some (⟨xu, xe, xl, xt⟩ : Val)) = true := hq
                  obtain rfl : RES = 6 := by have h := HRES.out; simp [HAL.out, hp, HFR.out, hsm] at h; first | exact h.symm | exact h | omega
                  clear hsm
                  clear HRES
                  go_wp2
                  go_ret
                  exact ⟨rfl, HGU.out.trans G7.out⟩
end Go.Proofs.YtjaknioojpgkiaaGreatDoor
