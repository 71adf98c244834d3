/- Lemmas on what the functions of the program and of the library compute: Ap1, Ap2. The conditions stand at each. -/
import Derived.Test.YtafncfomiolmgaaGreatDoorQ14
import Derived.Test.YtafncfomiolmgaaGreatDoorQ18
import Derived.Test.YtafncfomiolmgaaGreatDoorQ4
import Derived.Test.YtafncfomiolmgaaGreatDoorQ13
import Derived.Maps.OwnSet
/- rearrange: the operations by their kinds: what the editor's method returns is what Apply returns; right. The conditions: the tree is right; the lists are short; the library's own variables hold what they must. -/
namespace Go.Proofs.YtafncfomiolmgaaGreatDoor
open Go.RowKit

theorem MEnd.cast {w0 : World} {E : Nat} {R R' : Tr} {n n' : Int} {e : Ending} {w' : World} (h : MEnd w0 E R n e w') (hn : n = n') (hR : n = 0 → R = R') : MEnd w0 E R' n' e w' := by
  subst hn
  refine ⟨h.1, h.2.1, fun h0 => ?_⟩
  rw [← hR h0]
  exact h.2.2 h0
section
variable {w0 : World} {E : Nat} {bv : Value} {t : Tr} {w : World} {o : Opn}
open Classical in
theorem applyR_on (hR : RightT t) (hf : formedO o = true) (h6 : o.kind ≠ 6) : applyR t o = if faultO t o ≠ 0 then (⟨[], []⟩, faultO t o) else if RightT (newT t o) then (newT t o, 0) else (⟨[], []⟩, 15) := by
  unfold applyR
  rw [if_neg]
  rintro (h | h | h)
  · exact h hR
  · rw [hf] at h
    cases h
  · exact h6 h
theorem applyR_off (h : ¬ RightT t ∨ formedO o = false ∨ o.kind = 6) : applyR t o = (⟨[], []⟩, 1) := by
  unfold applyR
  rw [if_pos h]
open Classical in
theorem applyR_is (hR : RightT t) (hf : formedO o = true) (h6 : o.kind ≠ 6) {n : Int} {R : Tr} (hn : n = if faultO t o ≠ 0 then faultO t o else if RightT (newT t o) then 0 else 15) (hT : faultO t o = 0 → R = newT t o) : n = (applyR t o).2 ∧ (n = 0 → R = (applyR t o).1) := by
  rw [applyR_on hR hf h6]
  subst hn
  split
  · rename_i h
    exact ⟨rfl, fun h0 => absurd h0 h⟩
  · rename_i h
    split
    · exact ⟨rfl, fun _ => hT (Classical.not_not.1 h)⟩
    · exact ⟨rfl, fun h0 => by cases h0⟩
theorem do1 (h : EdB w0.heap.size E bv t w) (hG : Grew w0 w) (hEnv : Env w0) (hR : RightT t) (hf : formedO o = true) (hk : o.kind = 1) : Calls Tryz.prog 47 #[.pointer (some ⟨E, 0, none⟩), o.agg] w (MEnd w0 E (applyR t o).1 (applyR t o).2) := by
  have hx := applyR_is (R := createT t o) hR hf (by rw [hk]; decide) (n := resC t o) (by unfold resC; rw [faultO_1 hk, newT_1 hk]) (fun _ => (newT_1 hk).symm)
  exact (edCreate h hG hEnv (right_sound hR) o hf hk).mono fun e w' hm => hm.cast hx.1 hx.2
theorem do2 (h : EdB w0.heap.size E bv t w) (hG : Grew w0 w) (hEnv : Env w0) (hR : RightT t) (hf : formedO o = true) (hk : o.kind = 2) : Calls Tryz.prog 48 #[.pointer (some ⟨E, 0, none⟩), o.agg] w (MEnd w0 E (applyR t o).1 (applyR t o).2) := by
  cases hb : brFind t.brs o.unit with
  | none =>
    have h7 : faultM t o = 7 := by unfold faultM; rw [hb]
    have hx := applyR_is (R := t) hR hf (by rw [hk]; decide) (n := 7) (by rw [faultO_2 hk, h7]; simp) (fun h0 => by rw [faultO_2 hk, h7] at h0; cases h0)
    exact (edMoveNo h hG (tok_of (right_sound hR)) o hb t).mono fun e w' hm => hm.cast hx.1 hx.2
  | some u =>
    have hx := applyR_is (R := moveT t o u) hR hf (by rw [hk]; decide) (n := resM t o u) (by unfold resM; rw [faultO_2 hk, newT_2 hk hb]) (fun _ => (newT_2 hk hb).symm)
    exact (edMove h hG hEnv hR (right_sound hR) o hk hb).mono fun e w' hm => hm.cast hx.1 hx.2
theorem do3 (h : EdB w0.heap.size E bv t w) (hG : Grew w0 w) (hR : RightT t) (hf : formedO o = true) (hk : o.kind = 3) : Calls Tryz.prog 49 #[.pointer (some ⟨E, 0, none⟩), o.agg] w (MEnd w0 E (applyR t o).1 (applyR t o).2) := by
  have h6 : o.kind ≠ 6 := by rw [hk]; decide
  have hx : (if (brFind t.brs o.unit).isSome then (0 : Int) else 7) = (applyR t o).2 ∧ ((if (brFind t.brs o.unit).isSome then (0 : Int) else 7) = 0 → (setU t o.unit fun b => { b with title := o.title }) = (applyR t o).1) := by
    cases hb : brFind t.brs o.unit with
    | none =>
      have h7 : faultL t o = 7 := by unfold faultL; rw [hb]
      exact applyR_is hR hf h6 (by rw [faultO_34 (.inl hk), h7]; simp) (fun h0 => by rw [faultO_34 (.inl hk), h7] at h0; cases h0)
    | some u =>
      have h0 : faultL t o = 0 := by
        unfold faultL
        rw [hb]
        simp [hk]
      have hS := newT_sound (right_sound hR) hf h6 (by rw [faultO_34 (.inl hk), h0])
      rw [newT_3 hk hb] at hS
      have hT := label_right hR o.unit (fun b => { b with title := o.title }) (fun b => ⟨rfl, rfl⟩) hS
      refine applyR_is hR hf h6 ?_ (fun _ => (newT_3 hk hb).symm)
      show (0 : Int) = _
      rw [faultO_34 (.inl hk), h0, newT_3 hk hb, if_neg (by simp), if_pos hT]
  exact (edRename h hG (tok_of (right_sound hR)) o).mono fun e w' hm => hm.cast hx.1 hx.2
theorem do4 (h : EdB w0.heap.size E bv t w) (hG : Grew w0 w) (hR : RightT t) (hf : formedO o = true) (hk : o.kind = 4) : Calls Tryz.prog 50 #[.pointer (some ⟨E, 0, none⟩), o.agg] w (MEnd w0 E (applyR t o).1 (applyR t o).2) := by
  have h6 : o.kind ≠ 6 := by rw [hk]; decide
  have hx : (if (brFind t.brs o.unit).isSome then (if usedB t o.mark o.unit then (19 : Int) else 0) else 7) = (applyR t o).2 ∧ ((if (brFind t.brs o.unit).isSome then (if usedB t o.mark o.unit then (19 : Int) else 0) else 7) = 0 → (setU t o.unit fun b => { b with mark := o.mark }) = (applyR t o).1) := by
    cases hb : brFind t.brs o.unit with
    | none =>
      have h7 : faultL t o = 7 := by unfold faultL; rw [hb]
      exact applyR_is hR hf h6 (by rw [faultO_34 (.inr hk), h7]; simp) (fun h0 => by rw [faultO_34 (.inr hk), h7] at h0; cases h0)
    | some u =>
      cases hu : usedB t o.mark o.unit with
      | true =>
        have h19 : faultL t o = 19 := by
          unfold faultL
          rw [hb]
          simp [hk, hu]
        exact applyR_is hR hf h6 (by rw [faultO_34 (.inr hk), h19]; simp) (fun h0 => by rw [faultO_34 (.inr hk), h19] at h0; cases h0)
      | false =>
        have h0 : faultL t o = 0 := by
          unfold faultL
          rw [hb]
          simp [hu]
        have hS := newT_sound (right_sound hR) hf h6 (by rw [faultO_34 (.inr hk), h0])
        rw [newT_4 hk hb] at hS
        have hT := label_right hR o.unit (fun b => { b with mark := o.mark }) (fun b => ⟨rfl, rfl⟩) hS
        refine applyR_is hR hf h6 ?_ (fun _ => (newT_4 hk hb).symm)
        show (0 : Int) = _
        rw [faultO_34 (.inr hk), h0, newT_4 hk hb, if_neg (by simp), if_pos hT]
  exact (edMark h hG (tok_of (right_sound hR)) o).mono fun e w' hm => hm.cast hx.1 hx.2
theorem do5 (h : EdB w0.heap.size E bv t w) (hG : Grew w0 w) (hR : RightT t) (hf : formedO o = true) (hk : o.kind = 5) : Calls Tryz.prog 51 #[.pointer (some ⟨E, 0, none⟩), o.agg] w (MEnd w0 E (applyR t o).1 (applyR t o).2) := by
  have h6 : o.kind ≠ 6 := by rw [hk]; decide
  have hx : faultR t o = (applyR t o).2 := by
    refine (applyR_is (R := newT t o) hR hf h6 ?_ fun _ => rfl).1
    rw [faultO_5 hk]
    split
    · rfl
    · rename_i h0
      have h00 : faultR t o = 0 := Classical.not_not.1 h0
      obtain ⟨u, hb⟩ := find_there (by rw [faultO_5 hk]; exact h00) (by rw [hk]; decide)
      have hT : RightT (newT t o) := by
        rw [newT_5 hk hb]
        refine remove_right hR (find_in hb).1 (find_in hb).2 ?_
        unfold faultR at h00
        rw [hb] at h00
        by_cases hk0 : u.kids = []
        · exact hk0
        · simp [hk0] at h00
      rw [if_pos hT]
      exact h00
  refine (edRemove h hG (tok_of (right_sound hR)) o (newT t o) fun u hb => (newT_5 hk hb).symm).mono fun e w' hm => hm.cast hx fun h0 => ?_
  have := (applyR_is (R := newT t o) (n := (applyR t o).2) hR hf h6 (by
    rw [applyR_on hR hf h6]
    split
    · rfl
    · split <;> rfl) fun _ => rfl).2 (by rw [← hx]; exact h0)
  exact this
end
end Go.Proofs.YtafncfomiolmgaaGreatDoor

/- rearrange: right; Apply's map of methods, made and asked. The conditions: the lists are short; the library's own variables hold what they must. -/
namespace Go.Proofs.YtafncfomiolmgaaGreatDoor
open Go.RowKit
open Go.Maps (Keyed int_keyed keyOf_int_mk)

theorem fRight (rs : List Int) (l : List Br) (rv bv : Value) (w : World) (hE : Env w) (hr : SlI w rv rs) (hv : SlBr w bv l) (hf : FewBr l) (hrl : rs.length ≤ 1000000) :
    Calls Tryz.prog 52 #[.agg #[rv, bv]] w (RetB (RightT ⟨rs, l⟩) w) := by
  have K := Lib.hid (fun W (hW : Grew w W) => tCheck rs l rv bv W (hE.mono hW) (hr.mono hW) (hv.mono hW) hf hrl)
  clear hE hr hv hf hrl
  go_enter Tryz.func52, Tryz.ntmps52
  go_wp2_with fail
  refine (K.out _ ((Grew.refl w).alloc _)).mono ?_
  rintro e w1 ⟨i, n, rfl, hn, g⟩
  have HN := Lib.hid hn
  have HG := Lib.hid (((Grew.refl w).alloc _).trans g)
  clear hn g
  dsimp only
  cases hz : (n == 0)
  · go_wp2
    go_ret
    exact ⟨false, rfl, ⟨(fun h => by cases h), (fun h => by rw [HN.out.2 h] at hz; cases hz)⟩, HG.out⟩
  · go_wp2
    go_ret
    exact ⟨true, rfl, ⟨fun _ => HN.out.1 (by simpa using hz), fun _ => rfl⟩, HG.out⟩
/-- What a function value reads as: its number. -/
def fnElem (v : Value) : Option (DataW Unit × List MemPlace) := match v with
  | .func (.func f) a c => if a.size = 0 ∧ c.size = 0 then some (.lit (.int .i64 (f : Int)), []) else none
  | .nilFunc => some (.lit (.int .i64 (-1)), [])
  | _ => none
theorem fnElem_is {v : Value} {f : Nat} {ps : List MemPlace} (h : fnElem v = some (.lit (.int .i64 (f : Int)), ps)) : v = .func (.func f) #[] #[] := by
  unfold fnElem at h
  split at h
  · rename_i g a c
    split at h
    · rename_i hs
      have ha : a = #[] := Array.size_eq_zero_iff.1 hs.1
      have hc : c = #[] := Array.size_eq_zero_iff.1 hs.2
      subst ha hc
      have h1 : (g : Int) = (f : Int) ∧ [] = ps := by simpa using h
      have h2 := h1.1
      have : g = f := Int.ofNat_inj.1 h2
      rw [this]
    · cases h
  · simp at h
  · cases h
def kindsD : DataW Unit := (((((DataW.map []).put (.int .i64 1) (.lit (.int .i64 47))).put (.int .i64 2) (.lit (.int .i64 48))).put (.int .i64 3) (.lit (.int .i64 49))).put (.int .i64 4) (.lit (.int .i64 50))).put (.int .i64 5) (.lit (.int .i64 51))
theorem kinds_no {k : Int} (h1 : k ≠ 1) (h2 : k ≠ 2) (h3 : k ≠ 3) (h4 : k ≠ 4) (h5 : k ≠ 5) : Maps.has kindsD (.int .i64 k) = false := by
  unfold kindsD
  rw [Maps.has_put_other (by simpa using h5), Maps.has_put_other (by simpa using h4), Maps.has_put_other (by simpa using h3), Maps.has_put_other (by simpa using h2), Maps.has_put_other (by simpa using h1)]
  rfl
theorem keyI : Keyed Tryz.prog 3 := int_keyed Tryz.underlying3
theorem wf_small {k : Int} (h : 0 ≤ k ∧ k ≤ 1073741824) : (Lit.int .i64 k).wf = true := WalkArith.wf_i64 (by omega)
/-- The map of the methods is made. -/
theorem kinds_made (W : World) : ∃ W1 W2 W3 W4 W5, (Instr.mapUpdate 69 (.map (some W.heap.size)) (.int .i64 1) (.func (.func 47) #[] #[])).run Tryz.prog (W.alloc (.map #[] 0)) = .ok () W1 ∧
    (Instr.mapUpdate 69 (.map (some W.heap.size)) (.int .i64 2) (.func (.func 48) #[] #[])).run Tryz.prog W1 = .ok () W2 ∧
    (Instr.mapUpdate 69 (.map (some W.heap.size)) (.int .i64 3) (.func (.func 49) #[] #[])).run Tryz.prog W2 = .ok () W3 ∧
    (Instr.mapUpdate 69 (.map (some W.heap.size)) (.int .i64 4) (.func (.func 50) #[] #[])).run Tryz.prog W3 = .ok () W4 ∧
    (Instr.mapUpdate 69 (.map (some W.heap.size)) (.int .i64 5) (.func (.func 51) #[] #[])).run Tryz.prog W4 = .ok () W5 ∧
    W5.ownsMap Tryz.prog 3 fnElem W.heap.size 5 kindsD ∧ Grew W W5 := by
  have ht := Tryz.underlying69
  have hk : ∀ k : Int, 0 ≤ k → k ≤ 5 → keyOf Tryz.prog 3 (.int .i64 k) = some (.int .i64 k) := fun k h0 h5 => keyOf_int_mk Tryz.underlying3 (wf_small ⟨h0, by omega⟩)
  have h0 := World.ownsMap_made W Tryz.prog 3 fnElem
  have g0 : Grew W (W.alloc (.map #[] 0)) := (Grew.refl W).alloc _
  obtain ⟨W1, e1, h1, r1⟩ := h0.update keyI ht (by decide) (hk 1 (by omega) (by omega)) (val := .func (.func 47) #[] #[]) (d := .lit (.int .i64 47)) (ps := []) rfl
  have g1 : Grew W W1 := Below.grown g0 r1 g0.size (fun b hb => by cases hb; exact Nat.le_refl _)
  obtain ⟨W2, e2, h2, r2⟩ := h1.update keyI ht (by decide) (hk 2 (by omega) (by omega)) (val := .func (.func 48) #[] #[]) (d := .lit (.int .i64 48)) (ps := []) rfl
  have g2 : Grew W W2 := Below.grown g1 r2 g1.size (fun b hb => by cases hb; exact Nat.le_refl _)
  obtain ⟨W3, e3, h3, r3⟩ := h2.update keyI ht (by decide) (hk 3 (by omega) (by omega)) (val := .func (.func 49) #[] #[]) (d := .lit (.int .i64 49)) (ps := []) rfl
  have g3 : Grew W W3 := Below.grown g2 r3 g2.size (fun b hb => by cases hb; exact Nat.le_refl _)
  obtain ⟨W4, e4, h4, r4⟩ := h3.update keyI ht (by decide) (hk 4 (by omega) (by omega)) (val := .func (.func 50) #[] #[]) (d := .lit (.int .i64 50)) (ps := []) rfl
  have g4 : Grew W W4 := Below.grown g3 r4 g3.size (fun b hb => by cases hb; exact Nat.le_refl _)
  obtain ⟨W5, e5, h5, r5⟩ := h4.update keyI ht (by decide) (hk 5 (by omega) (by omega)) (val := .func (.func 51) #[] #[]) (d := .lit (.int .i64 51)) (ps := []) rfl
  have g5 : Grew W W5 := Below.grown g4 r5 g4.size (fun b hb => by cases hb; exact Nat.le_refl _)
  exact ⟨W1, W2, W3, W4, W5, e1, e2, e3, e4, e5, h5, g5⟩
theorem zeroFn (w : World) : (zeroValue 67).run Tryz.prog w = .ok .nilFunc w := by kernel_rfl
/-- The map is asked. -/
theorem kinds_look {W : World} {b : Nat} (h : W.ownsMap Tryz.prog 3 fnElem b 5 kindsD) {k : Int} (hk : (Lit.int .i64 k).wf = true) :
    ∃ v, (Instr.lookup 69 (.map (some b)) (.int .i64 k) true).run Tryz.prog W = .ok (.tuple #[v, .bool (Maps.has kindsD (.int .i64 k))]) W ∧ ∃ ps, fnElem v = some (kindsD.atKey (.int .i64 k) (.lit (.int .i64 (-1))), ps) := by
  obtain ⟨v, ps, hrun, hv⟩ := h.look_ok keyI Tryz.underlying69 (zeroFn W) (zd := .lit (.int .i64 (-1))) (zp := []) rfl (keyOf_int_mk Tryz.underlying3 hk)
  exact ⟨v, hrun, ps, hv⟩
theorem kinds_1 : Maps.has kindsD (.int .i64 1) = true ∧ kindsD.atKey (.int .i64 1) (.lit (.int .i64 (-1))) = .lit (.int .i64 47) := ⟨rfl, rfl⟩
theorem kinds_2 : Maps.has kindsD (.int .i64 2) = true ∧ kindsD.atKey (.int .i64 2) (.lit (.int .i64 (-1))) = .lit (.int .i64 48) := ⟨rfl, rfl⟩
theorem kinds_3 : Maps.has kindsD (.int .i64 3) = true ∧ kindsD.atKey (.int .i64 3) (.lit (.int .i64 (-1))) = .lit (.int .i64 49) := ⟨rfl, rfl⟩
theorem kinds_4 : Maps.has kindsD (.int .i64 4) = true ∧ kindsD.atKey (.int .i64 4) (.lit (.int .i64 (-1))) = .lit (.int .i64 50) := ⟨rfl, rfl⟩
theorem kinds_5 : Maps.has kindsD (.int .i64 5) = true ∧ kindsD.atKey (.int .i64 5) (.lit (.int .i64 (-1))) = .lit (.int .i64 51) := ⟨rfl, rfl⟩
end Go.Proofs.YtafncfomiolmgaaGreatDoor
