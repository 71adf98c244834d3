/- Lemmas on what the functions of the program and of the library compute: Awd. The conditions stand at each. -/
import Derived.Test.YtjaknioojpgkiaaGreatDoorQ49
import Derived.Test.YtjaknioojpgkiaaGreatDoorQ42
import Derived.Test.YtjaknioojpgkiaaGreatDoorQ41
import Derived.Test.YtjaknioojpgkiaaGreatDoorQ47
import Derived.Test.YtjaknioojpgkiaaGreatDoorQ32
import Derived.Test.YtjaknioojpgkiaaGreatDoorQ3
import Derived.Test.YtjaknioojpgkiaaGreatDoorQ19
/- The example of the chapter of layer 29, walked: it answers yes. The condition: the library's own variables hold what they must. -/
namespace Go.Proofs.YtjaknioojpgkiaaGreatDoor
open Go.RowKit

theorem len_oneD (l : List Int) : (l.flatMap oneI).length = l.length := by
  induction l with
  | nil => rfl
  | cons x r ih => rw [List.flatMap_cons, List.length_append, ih]; simp [oneI]; omega
theorem eqI29 (l : List Int) (v : Value) (w0 W : World) (cs : List Value) (k : Nat) (hc : cs = l.flatMap oneI) (hk : l.length = k) (hm : k ≤ 4) (h : SlI w0 v l) (hg : Grew w0 W) : Calls Tryz.prog 26 #[v, .slice (some ⟨W.heap.size, 0, none⟩) k k] (W.alloc (.cells cs.toArray 3)) fun e w' => e = .returned (.bool true) ∧ Grew (W.alloc (.cells cs.toArray 3)) w' := by
  subst hk hc
  have := equalI l l v _ _ (h.mono (hg.alloc (.cells (l.flatMap oneI).toArray 3))) (Rd.fresh W 3 1 l.length (l.flatMap oneI) (by rw [len_oneD]; omega) (by unfold maxLen; omega))
  simpa using this
set_option maxHeartbeats 16000000 in
set_option maxRecDepth 100000 in
theorem awake29 (w : World) (hE : Env w) : Calls Tryz.prog 10 #[] w fun e w' => e = .returned (.bool true) ∧ Grew w w' := by
  have KE := Lib.hid (fun W => exInD W)
  have HE := Lib.hid hE
  clear hE
  unfold RetExD at KE
  go_enter Tryz.func10, Tryz.ntmps10
  go_wp2_with fail
  refine (KE.out _).mono ?_
  rintro e w1 ⟨rv, bv, lv, vv, rfl, hr, hv, hl, hvv, g1⟩
  have hvs : SlV w1 (match vv with | .slice A _ c => .slice A 3 c | v => v) iVs := by
    obtain ⟨A, c, rfl, -⟩ := hvv.open_
    have := preV_rd (k := 3) hvv (by decide)
    exact this
  have HE1 := Lib.hid (HE.out.mono g1)
  have hf := iFew
  have GW1 := Lib.hid g1
  have kF1 := fun W (hW : Grew w1 W) => dSet iT iL iVa dV rv bv lv vv W (HE1.out.mono hW) (hr.mono hW) (hv.mono hW) hf (by decide) (hl.mono hW) (hvv.mono hW) (by decide)
  have kF2 := fun W (hW : Grew w1 W) => dNormal iT iL iVa rv bv lv vv W (HE1.out.mono hW) (hr.mono hW) (hv.mono hW) hf (by decide) (hl.mono hW) (hvv.mono hW) (by decide)
  have kF3 := fun W (hW : Grew w1 W) => dClear iT iL iVa 2 4 sEn rv bv lv vv W (HE1.out.mono hW) (hr.mono hW) (hv.mono hW) hf (by decide) (hl.mono hW) (hvv.mono hW) (by decide)
  have kF4 := fun W (hW : Grew w1 W) => dPrint iT iL iVa 9 sDe rv bv lv vv W (HE1.out.mono hW) (hr.mono hW) (hv.mono hW) hf (by decide) (hl.mono hW) (hvv.mono hW)
  have kF6 := fun av W (hW : Grew w1 W) (ha : SlV W av iA) => dDiffer iT iT iL iVa iA sEn rv bv rv bv lv vv av W (HE1.out.mono hW) (hr.mono hW) (hv.mono hW) hf (by decide) (hr.mono hW) (hv.mono hW) hf (by decide) (hl.mono hW) (hvv.mono hW) (by decide) ha (by decide)
  obtain ⟨h31, h32⟩ := dF3
  rw [dF1] at kF1
  rw [dF2] at kF2
  generalize clearR iT iL iVa ⟨2, 4, sEn, ⟨#[]⟩⟩ = C3 at kF3 h31 h32
  obtain ⟨c3, e3⟩ := C3
  dsimp only at h31 h32
  subst h32
  rw [dF4] at kF4
  rw [dF6] at kF6
  unfold RetVL Val.agg dV at kF1
  unfold RetVL at kF2 kF3
  unfold RetNL at kF6
  unfold sEn at kF3 kF6
  unfold sDe at kF4
  dsimp only at kF1 kF2 kF3 kF4 kF6
  obtain ⟨Ar, cr, rfl, -⟩ := hr.open_
  obtain ⟨Ab, cb, rfl, -⟩ := hv.open_
  obtain ⟨Al, cl, rfl, -⟩ := hl.open_
  obtain ⟨Av, cv, rfl, hlc, hc, hcr⟩ := hvv.open_
  have hvs2 : SlV w1 (.slice Av 3 cv) iVs := hvs
  have kF5 := fun W (hW : Grew w1 W) => dPrint iT iL iVs 9 sFr _ _ _ _ W (HE1.out.mono hW) (hr.mono hW) (hv.mono hW) hf (by decide) (hl.mono hW) (hvs2.mono hW)
  rw [dF5] at kF5
  unfold sFr at kF5
  dsimp only at kF5
  have hn4 : iVa.length = 4 := rfl
  have hn2 : iL.length = 2 := rfl
  have hn1 : iT.roots.length = 1 := rfl
  have hnb : iT.brs.length = 4 := rfl
  have hna : iA.length = 2 := rfl
  have hns : iVs.length = 3 := rfl
  rw [hn1, hnb, hn2] at kF5
  rw [hn1, hnb, hn2, hn4] at kF1 kF2 kF3 kF4 kF6
  rw [hns] at kF2
  rw [hna] at kF1
  rw [hn1, hnb, hn2, hn4]
  rw [h31] at kF3
  clear hn4 hn2 hn1 hnb hna hns h31
  have hlc4 : 4 ≤ cv := hlc
  have hcz : (3 : Int) ≤ (cv : Int) := by omega
  have HVS := Lib.hid (show SlV w1 (.slice Av 3 cv) iVs from hvs2)
  have KF1 := Lib.hid kF1
  have KF2 := Lib.hid kF2
  have KF3 := Lib.hid kF3
  have KF4 := Lib.hid kF4
  have KF5 := Lib.hid kF5
  have KF6 := Lib.hid kF6
  clear kF1 kF2 kF3 kF4 kF5 kF6 hr hv hl hvv hvs hvs2 hcr hlc hc g1 hf KE HE
  dsimp only
  go_wp2_with fail
  have gt := (Grew.refl w1).alloc (.cells #[.slice Ar 1 cr, .slice Ab 4 cb] 25)
  have t0 := new_cell (Grew.refl (w1.alloc (.cells #[.slice Ar 1 cr, .slice Ab 4 cb] 25))) 0 _ rfl
  have t1 := new_cell (Grew.refl (w1.alloc (.cells #[.slice Ar 1 cr, .slice Ab 4 cb] 25))) 1 _ rfl
  generalize w1.alloc (.cells #[.slice Ar 1 cr, .slice Ab 4 cb] 25) = WT at gt t0 t1 ⊢
  have GT := Lib.hid gt
  have HTB := Lib.hid (show ∀ W, Grew WT W → W.cell? ⟨w1.heap.size, 0, none⟩ = some (.slice Ar 1 cr) ∧ W.cell? ⟨w1.heap.size, 1, none⟩ = some (.slice Ab 4 cb) from fun W g => ⟨keep_cell g t0, keep_cell g t1⟩)
  clear gt
  refine (KF1.out _ GT.out).mono ?_
  rintro e wr1 ⟨v1, rfl, ho, gq⟩
  obtain ⟨A1, c1, rfl⟩ := own_slice ho
  have HL1 := Lib.hid (Rd.of_own ho)
  have GQ1 := Lib.hid gq
  clear ho gq
  replace GT := Lib.hid (GT.out.trans GQ1.out)
  replace HTB := Lib.hid (fun W gg => HTB.out W (Grew.trans GQ1.out gg))
  clear t0 t1
  obtain ⟨t0, t1⟩ := HTB.out _ (Grew.refl _)
  dsimp only
  go_wp2_with fail
  refine (KF2.out _ GT.out).mono ?_
  rintro e wr2 ⟨v2, rfl, ho, gq⟩
  obtain ⟨A2, c2, rfl⟩ := own_slice ho
  have HL2 := Lib.hid (Rd.of_own ho)
  have GQ2 := Lib.hid gq
  clear ho gq
  replace GT := Lib.hid (GT.out.trans GQ2.out)
  replace HTB := Lib.hid (fun W gg => HTB.out W (Grew.trans GQ2.out gg))
  replace HL1 := Lib.hid (HL1.out.mono GQ2.out)
  clear t0 t1
  obtain ⟨t0, t1⟩ := HTB.out _ (Grew.refl _)
  dsimp only
  go_wp2_with fail
  refine (KF3.out _ GT.out).mono ?_
  rintro e wr3 ⟨v3, rfl, ho, gq⟩
  obtain ⟨A3, c3, rfl⟩ := own_slice ho
  have HL3 := Lib.hid (Rd.of_own ho)
  have GQ3 := Lib.hid gq
  clear ho gq
  replace GT := Lib.hid (GT.out.trans GQ3.out)
  replace HTB := Lib.hid (fun W gg => HTB.out W (Grew.trans GQ3.out gg))
  replace HL1 := Lib.hid (HL1.out.mono GQ3.out)
  replace HL2 := Lib.hid (HL2.out.mono GQ3.out)
  clear t0 t1
  obtain ⟨t0, t1⟩ := HTB.out _ (Grew.refl _)
  dsimp only
  go_wp2_with fail
  refine (KF4.out _ GT.out).mono ?_
  rintro e wr4 ⟨rfl, gq⟩
  have GQ4 := Lib.hid gq
  clear gq
  replace GT := Lib.hid (GT.out.trans GQ4.out)
  replace HTB := Lib.hid (fun W gg => HTB.out W (Grew.trans GQ4.out gg))
  replace HL1 := Lib.hid (HL1.out.mono GQ4.out)
  replace HL2 := Lib.hid (HL2.out.mono GQ4.out)
  clear t0 t1
  obtain ⟨t0, t1⟩ := HTB.out _ (Grew.refl _)
  dsimp only
  go_wp2_with fail
  go_cut [12, 13] from 51 to 57 (fun s12 s13 wx => s12 = .string ⟨#[99, 111, 110, 100, 105, 116, 105, 111, 110, 115, 32, 40, 101, 110, 41, 32, 102, 114, 111, 109, 32, 50, 58, 32, 99, 108, 111, 115, 101, 100, 10]⟩ ∧ s13 = .int .i64 0 ∧ Aside (Grew wr4 wx))
  case first =>
    go_region_held3 (fun W => W.cell? ⟨w1.heap.size, 0, none⟩ = some (.slice Ar 1 cr) ∧ W.cell? ⟨w1.heap.size, 1, none⟩ = some (.slice Ab 4 cb) ∧ Grew wr4 W) (refine heldI wr4 _ t0 t1 (by repeat (with_reducible first | exact Grew.refl _ | exact GQ.out | refine Grew.drew ?_ | refine Grew.alloc ?_ _))) ((go_at_call 24; with_reducible refine (KF5.out _ (GT.out.trans (by repeat (with_reducible first | exact Grew.refl _ | refine Grew.drew ?_ | refine Grew.alloc ?_ _)))).mono ?_; rintro e wq ⟨rfl, gq⟩; have GQ := Lib.hid (show Grew wr4 wq from Grew.trans (by repeat (with_reducible first | exact Grew.refl _ | refine Grew.drew ?_ | refine Grew.alloc ?_ _)) gq); clear gq))
    all_goals go_wp2_with fail
    all_goals go_meet
    all_goals exact ⟨rfl, rfl, (show Aside _ from GQ.out)⟩
  case rest =>
    obtain ⟨rfl, rfl, GC⟩ := hcut
    replace GT := Lib.hid (GT.out.trans GC.out)
    replace HTB := Lib.hid (fun W gg => HTB.out W (Grew.trans GC.out gg))
    replace HL1 := Lib.hid (HL1.out.mono GC.out)
    replace HL2 := Lib.hid (HL2.out.mono GC.out)
    clear t0 t1
    obtain ⟨t0, t1⟩ := HTB.out _ (Grew.refl _)
    have hla := HL1.out
    go_wp2_with fail
    refine (KF6.out _ _ GT.out HL1.out).mono ?_
    rintro e wr6 ⟨v6, rfl, ho, gq⟩
    obtain ⟨A6, c6, rfl⟩ := own_slice ho
    have HL6 := Lib.hid (Rd.of_own ho)
    have GQ6 := Lib.hid gq
    clear ho gq hla
    replace GT := Lib.hid (GT.out.trans GQ6.out)
    replace HTB := Lib.hid (fun W gg => HTB.out W (Grew.trans GQ6.out gg))
    replace HL1 := Lib.hid (HL1.out.mono GQ6.out)
    replace HL2 := Lib.hid (HL2.out.mono GQ6.out)
    clear t0 t1
    obtain ⟨t0, t1⟩ := HTB.out _ (Grew.refl _)
    have HVT := Lib.hid (HVS.out.mono GT.out)
    have hkq := equalV iVs iVs _ _ wr6 HL2.out HVT.out
    rw [decide_eq_true (rfl : iVs = iVs)] at hkq
    have KQ := Lib.hid hkq
    clear hkq
    have KQ2 := Lib.hid (fun W (hW : Grew wr6 W) => eqI29 [1, 5] (.slice A6 2 c6) wr6 W [.int .i64 1, .int .i64 5] 2 rfl rfl (by decide) HL6.out hW)
    clear KF1 KF2 KF3 KF4 KF5 KF6 t0 t1
    dsimp only
    go_wp2_with fail
    refine KQ.out.mono ?_
    rintro e w8 ⟨rfl, g8⟩
    have G8 := Lib.hid g8
    clear g8
    dsimp only
    go_wp2_with fail
    refine (KQ2.out _ G8.out).mono ?_
    rintro e w9 ⟨rfl, g9⟩
    have G9 := Lib.hid (GW1.out.trans (GT.out.trans (G8.out.trans (Grew.trans ((Grew.refl _).alloc _) g9))))
    clear g9
    dsimp only
    go_wp2
    go_ret
    exact ⟨rfl, G9.out⟩
end Go.Proofs.YtjaknioojpgkiaaGreatDoor
