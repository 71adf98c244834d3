/- Lemmas on what the functions of the program and of the library compute: Awi. The conditions stand at each. -/
import Derived.Test.YtmbpeniaefpljaaGreatDoorQ42
import Derived.Test.YtmbpeniaefpljaaGreatDoorQ37
import Derived.Test.YtmbpeniaefpljaaGreatDoorQ13
import Derived.Test.YtmbpeniaefpljaaGreatDoorQ3
import Derived.Test.YtmbpeniaefpljaaGreatDoorQ19
/- The example of the chapter of layer 28, walked: it answers yes. The condition: the library's own variables hold what they must. -/
namespace Go.Proofs.YtmbpeniaefpljaaGreatDoor
open Go.RowKit

theorem len_oneI (l : List Int) : (l.flatMap oneI).length = l.length := by
  induction l with
  | nil => rfl
  | cons x r ih => rw [List.flatMap_cons, List.length_append, ih]; simp [oneI]; omega
theorem eqI28 (l : List Int) (v : Value) (w0 W : World) (cs : List Value) (k : Nat) (hc : cs = l.flatMap oneI) (hk : l.length = k) (hm : k ≤ 4) (h : SlI w0 v l) (hg : Grew w0 W) : Calls Tryz.prog 23 #[v, .slice (some ⟨W.heap.size, 0, none⟩) k k] (W.alloc (.cells cs.toArray 3)) fun e w' => e = .returned (.bool true) ∧ Grew (W.alloc (.cells cs.toArray 3)) w' := by
  subst hk hc
  have := equalI l l v _ _ (h.mono (hg.alloc (.cells (l.flatMap oneI).toArray 3))) (Rd.fresh W 3 1 l.length (l.flatMap oneI) (by rw [len_oneI]; omega) (by unfold maxLen; omega))
  simpa using this
theorem eqV28 (x : Val) (v : Value) (w0 W : World) (h : SlV w0 v [x]) (hg : Grew w0 W) : Calls Tryz.prog 38 #[v, .slice (some ⟨W.heap.size, 0, none⟩) 1 1] (W.alloc (.cells x.cells.toArray 31)) fun e w' => e = .returned (.bool true) ∧ Grew (W.alloc (.cells x.cells.toArray 31)) w' := by
  have := equalV [x] [x] v _ _ (h.mono (hg.alloc (.cells x.cells.toArray 31))) (by have := Rd.fresh W 31 4 1 x.cells rfl (by decide); simpa [SlV] using this)
  simpa using this
theorem eqI28d (l : List Int) (v : Value) (w0 W : World) (cs : List Value) (k : Nat) (hc : cs = l.flatMap oneI) (hk : l.length = k) (hm : k ≤ 4) (h : SlI w0 v l) (hg : Grew w0 W) : Calls Tryz.prog 23 #[v, .slice (some ⟨W.heap.size, 0, none⟩) k k] (W.alloc (.cells cs.toArray 3)).drew fun e w' => e = .returned (.bool true) ∧ Grew (W.alloc (.cells cs.toArray 3)).drew w' := by
  subst hk hc
  have := equalI l l v _ _ (h.mono (hg.alloc (.cells (l.flatMap oneI).toArray 3)).drew) (Rd.mono (Rd.fresh W 3 1 l.length (l.flatMap oneI) (by rw [len_oneI]; omega) (by unfold maxLen; omega)) (Grew.refl _).drew)
  simpa using this
theorem eqV28d (x : Val) (v : Value) (w0 W : World) (h : SlV w0 v [x]) (hg : Grew w0 W) : Calls Tryz.prog 38 #[v, .slice (some ⟨W.heap.size, 0, none⟩) 1 1] (W.alloc (.cells x.cells.toArray 31)).drew fun e w' => e = .returned (.bool true) ∧ Grew (W.alloc (.cells x.cells.toArray 31)).drew w' := by
  have := equalV [x] [x] v _ _ (h.mono (hg.alloc (.cells x.cells.toArray 31)).drew) (Rd.mono (by have := Rd.fresh W 31 4 1 x.cells rfl (by decide); simpa [SlV] using this) (Grew.refl _).drew)
  simpa using this
set_option maxHeartbeats 16000000 in
set_option maxRecDepth 100000 in
theorem awake28 (w : World) (hE : Env w) : Calls Tryz.prog 10 #[] w fun e w' => e = .returned (.bool true) ∧ Grew w w' := by
  have KE := Lib.hid (fun W => exIn W)
  have HE := Lib.hid hE
  clear hE
  unfold RetEx at KE
  go_enter Tryz.func10, Tryz.ntmps10
  go_wp2_with fail
  refine (KE.out _).mono ?_
  rintro e w1 ⟨rv, bv, lv, vv, rfl, hr, hv, hl, hvv, g1⟩
  have hvs : SlV w1 (match vv with | .slice A _ c => .slice A 3 c | v => v) iVs := by
    obtain ⟨A, c, rfl, -⟩ := hvv.open_
    have := preV_rd (k := 3) hvv (by decide)
    exact this
  have HE1 := Lib.hid (HE.out.mono g1)
  have hf := iFew
  have GW1 := Lib.hid g1
  have kF1 := fun W (hW : Grew w1 W) => iFoundX iT iL iVs 9 4 sEn rv bv lv _ W (HE1.out.mono hW) (hr.mono hW) (hv.mono hW) hf (by decide) (hl.mono hW) (hvs.mono hW)
  have kF2 := fun W (hW : Grew w1 W) => iFoundX iT iL iVs 9 4 sDe rv bv lv _ W (HE1.out.mono hW) (hr.mono hW) (hv.mono hW) hf (by decide) (hl.mono hW) (hvs.mono hW)
  have kF3 := fun W (hW : Grew w1 W) => iEffX iT iL iVs 9 4 sFr rv bv lv _ W (HE1.out.mono hW) (hr.mono hW) (hv.mono hW) hf (by decide) (hl.mono hW) (hvs.mono hW)
  have kF4 := fun W (hW : Grew w1 W) => iRedX iT iL iVa rv bv lv vv W (HE1.out.mono hW) (hr.mono hW) (hv.mono hW) hf (by decide) (hl.mono hW) (hvv.mono hW) (by decide)
  have kF5 := fun W (hW : Grew w1 W) => iReachX iT iL iVs 1 4 sEn rv bv lv _ W (HE1.out.mono hW) (hr.mono hW) (hv.mono hW) hf (by decide) (hl.mono hW) (hvs.mono hW)
  have kF6 := fun W (hW : Grew w1 W) => iAllX iT iL iVs 9 sDe rv bv lv _ W (HE1.out.mono hW) (hr.mono hW) (hv.mono hW) hf (by decide) (hl.mono hW) (hvs.mono hW)
  have kF7 := fun W (hW : Grew w1 W) => iGapsX iT iL iVa 1 rv bv lv vv W (HE1.out.mono hW) (hr.mono hW) (hv.mono hW) hf (by decide) (hl.mono hW) (hvv.mono hW)
  obtain ⟨h71, h72⟩ := iF7
  rw [iF1] at kF1
  rw [iF2] at kF2
  rw [iF3] at kF3
  rw [iF4] at kF4
  rw [iF5] at kF5
  rw [iF6] at kF6
  generalize gapsR iT iL iVa 1 = G7 at kF7 h71 h72
  obtain ⟨g7, e7⟩ := G7
  dsimp only at h71 h72
  subst h72
  unfold RetVE Val.agg iV2 at kF1 kF3
  unfold RetVE Val.agg iV0 at kF2
  unfold RetNL at kF4 kF5 kF7
  unfold RetVL iV0 at kF6
  unfold sEn at kF1 kF5
  unfold sDe at kF2 kF6
  unfold sFr at kF3
  obtain ⟨Ar, cr, rfl, -⟩ := hr.open_
  obtain ⟨Ab, cb, rfl, -⟩ := hv.open_
  obtain ⟨Al, cl, rfl, -⟩ := hl.open_
  obtain ⟨Av, cv, rfl, hlc, hc, hcr⟩ := hvv.open_
  obtain ⟨bb, off, rfl, hbb, hcell⟩ := hcr (by decide)
  have hn4 : iVa.length = 4 := rfl
  have hn2 : iL.length = 2 := rfl
  have hn1 : iT.roots.length = 1 := rfl
  have hnb : iT.brs.length = 4 := rfl
  rw [hn1, hnb, hn2] at kF1 kF2 kF3 kF5 kF6
  rw [hn1, hnb, hn2, hn4] at kF4 kF7
  rw [hn1, hnb, hn2, hn4]
  clear hn4 hn2 hn1 hnb
  dsimp only [Option.getD_some, Option.isSome_some] at kF1 kF2 kF3 kF4 kF5 kF6 kF7
  have hlc4 : 4 ≤ cv := hlc
  have hcz : (3 : Int) ≤ (cv : Int) := by omega
  have HC := Lib.hid (show ∀ W, Grew w1 W → (W.cell? ⟨bb, off, none⟩ = some (.int .i64 1) ∧ W.cell? ⟨bb, off + 1, none⟩ = some (.int .i64 4) ∧ W.cell? ⟨bb, off + 2, none⟩ = some (.string ⟨#[100, 101]⟩) ∧ W.cell? ⟨bb, off + 3, none⟩ = some (.string ⟨#[111, 102, 102, 101, 110]⟩)) ∧ (W.cell? ⟨bb, off + 8, none⟩ = some (.int .i64 2) ∧ W.cell? ⟨bb, off + 9, none⟩ = some (.int .i64 4) ∧ W.cell? ⟨bb, off + 10, none⟩ = some (.string ⟨#[101, 110]⟩) ∧ W.cell? ⟨bb, off + 11, none⟩ = some (.string ⟨#[99, 108, 111, 115, 101, 100]⟩)) from fun W g => ⟨by have h := hcell W g 0 (by decide); rw [Nat.zero_mul, Nat.add_zero] at h; exact h, hcell W g 2 (by decide)⟩)
  have KF1 := Lib.hid kF1
  have KF2 := Lib.hid kF2
  have KF3 := Lib.hid kF3
  have KF4 := Lib.hid kF4
  have KF5 := Lib.hid kF5
  have KF6 := Lib.hid kF6
  have KF7 := Lib.hid kF7
  clear kF1 kF2 kF3 kF4 kF5 kF6 kF7 hr hv hl hvv hvs hcr hcell hlc hc hbb g1 hf KE HE
  dsimp only
  go_wp2_with fail
  have gt := (Grew.refl w1).alloc (.cells #[.slice Ar 1 cr, .slice Ab 4 cb] 25)
  have t0 := new_cell (Grew.refl (w1.alloc (.cells #[.slice Ar 1 cr, .slice Ab 4 cb] 25))) 0 _ rfl
  have t1 := new_cell (Grew.refl (w1.alloc (.cells #[.slice Ar 1 cr, .slice Ab 4 cb] 25))) 1 _ rfl
  generalize w1.alloc (.cells #[.slice Ar 1 cr, .slice Ab 4 cb] 25) = WT at gt t0 t1 ⊢
  have GT := Lib.hid gt
  have HTB := Lib.hid (show ∀ W, Grew WT W → W.cell? ⟨w1.heap.size, 0, none⟩ = some (.slice Ar 1 cr) ∧ W.cell? ⟨w1.heap.size, 1, none⟩ = some (.slice Ab 4 cb) from fun W g => ⟨keep_cell g t0, keep_cell g t1⟩)
  have GC := Lib.hid (Grew.refl WT)
  clear gt
  go_cut [4, 5, 6] from 26 to 34 (fun s1 s2 s3 wx => ValCut3 WT 2 4 ⟨#[101, 110]⟩ ⟨#[99, 108, 111, 115, 101, 100]⟩ true 0 s1 s2 s3 wx)
  case first =>
    go_region_held3 (fun W => W.cell? ⟨w1.heap.size, 0, none⟩ = some (.slice Ar 1 cr) ∧ W.cell? ⟨w1.heap.size, 1, none⟩ = some (.slice Ab 4 cb) ∧ Grew WT W) (refine heldI WT _ t0 t1 (by repeat (with_reducible first | exact Grew.refl _ | exact GQ.out | refine Grew.drew ?_ | refine Grew.alloc ?_ _ | refine Grew.setCell ?_ (by first | exact Nat.le_refl _ | exact GQ.out.size | simp) _))) ((go_at_call 12; refine (KF1.out _ (GT.out.trans (by repeat (with_reducible first | exact Grew.refl _ | refine Grew.drew ?_ | refine Grew.alloc ?_ _)))).mono ?_; rintro e wq ⟨rfl, gq⟩; have GQ := Lib.hid (show Grew WT wq from Grew.trans (by repeat (with_reducible first | exact Grew.refl _ | refine Grew.drew ?_ | refine Grew.alloc ?_ _)) gq); (try (have hdr : Grew (WT.alloc (.cells [.int .i64 0, .int .i64 0, .string ⟨#[]⟩, .string ⟨#[]⟩].toArray 31)).drew wq := by with_reducible exact gq); (try (have qq := four_cells (heap_keepI (Grew.trans (Grew.refl _).drew hdr) (heap_newI WT (.cells [.int .i64 0, .int .i64 0, .string ⟨#[]⟩, .string ⟨#[]⟩].toArray 31))); obtain ⟨⟨q0, q1, q2, q3⟩, z0, z1, z2, z3⟩ := qq))); clear gq))
    all_goals go_wp2_with fail
    all_goals go_meet
    all_goals with_reducible first | exact val3 (val_meet2 GQ.out) | exact val3 (val_meet q0 q1 q2 q3 (Nat.le_refl _) GQ.out)
  case rest =>
    obtain ⟨⟨Ua, rfl, rfl, u0, u1, u2, u3, GC⟩, rfl⟩ := hcut
    replace GT := Lib.hid (GT.out.trans GC.out)
    replace HTB := Lib.hid (fun W gg => HTB.out W (Grew.trans GC.out gg))
    clear t0 t1
    obtain ⟨t0, t1⟩ := HTB.out _ (Grew.refl _)
    have u0 := u0.out
    have u1 := u1.out
    have u2 := u2.out
    have u3 := u3.out
    have HXa := Lib.hid (show ∀ W, Grew wc W → W.cell? ⟨Ua, 0, none⟩ = some (.int .i64 2) ∧ W.cell? ⟨Ua, 1, none⟩ = some (.int .i64 4) ∧ W.cell? ⟨Ua, 2, none⟩ = some (.string ⟨#[101, 110]⟩) ∧ W.cell? ⟨Ua, 3, none⟩ = some (.string ⟨#[99, 108, 111, 115, 101, 100]⟩) from fun W g => ⟨keep_cell g u0, keep_cell g u1, keep_cell g u2, keep_cell g u3⟩)
    clear u0 u1 u2 u3
    go_wp2_with fail
    go_cut [7, 8, 9] from 35 to 43 (fun s1 s2 s3 wx => ValCut3 wc 1 4 ⟨#[100, 101]⟩ ⟨#[111, 102, 102, 101, 110]⟩ true 0 s1 s2 s3 wx)
    case first =>
      go_region_held3 (fun W => W.cell? ⟨w1.heap.size, 0, none⟩ = some (.slice Ar 1 cr) ∧ W.cell? ⟨w1.heap.size, 1, none⟩ = some (.slice Ab 4 cb) ∧ Grew wc W) (refine heldI wc _ t0 t1 (by repeat (with_reducible first | exact Grew.refl _ | exact GQ.out | refine Grew.drew ?_ | refine Grew.alloc ?_ _ | refine Grew.setCell ?_ (by first | exact Nat.le_refl _ | exact GQ.out.size | simp) _))) ((go_at_call 12; refine (KF2.out _ (GT.out.trans (by repeat (with_reducible first | exact Grew.refl _ | refine Grew.drew ?_ | refine Grew.alloc ?_ _)))).mono ?_; rintro e wq ⟨rfl, gq⟩; have GQ := Lib.hid (show Grew wc wq from Grew.trans (by repeat (with_reducible first | exact Grew.refl _ | refine Grew.drew ?_ | refine Grew.alloc ?_ _)) gq); (try (have hdr : Grew (wc.alloc (.cells [.int .i64 0, .int .i64 0, .string ⟨#[]⟩, .string ⟨#[]⟩].toArray 31)).drew wq := by with_reducible exact gq); (try (have qq := four_cells (heap_keepI (Grew.trans (Grew.refl _).drew hdr) (heap_newI wc (.cells [.int .i64 0, .int .i64 0, .string ⟨#[]⟩, .string ⟨#[]⟩].toArray 31))); obtain ⟨⟨q0, q1, q2, q3⟩, z0, z1, z2, z3⟩ := qq))); clear gq))
      all_goals go_wp2_with fail
      all_goals go_meet
      all_goals with_reducible first | exact val3 (val_meet2 GQ.out) | exact val3 (val_meet q0 q1 q2 q3 (Nat.le_refl _) GQ.out)
    case rest =>
      obtain ⟨⟨Ub, rfl, rfl, u0, u1, u2, u3, GC⟩, rfl⟩ := hcut
      replace GT := Lib.hid (GT.out.trans GC.out)
      replace HTB := Lib.hid (fun W gg => HTB.out W (Grew.trans GC.out gg))
      replace HXa := Lib.hid (fun W gg => HXa.out W (Grew.trans GC.out gg))
      clear t0 t1
      obtain ⟨t0, t1⟩ := HTB.out _ (Grew.refl _)
      have u0 := u0.out
      have u1 := u1.out
      have u2 := u2.out
      have u3 := u3.out
      have HXb := Lib.hid (show ∀ W, Grew wc W → W.cell? ⟨Ub, 0, none⟩ = some (.int .i64 1) ∧ W.cell? ⟨Ub, 1, none⟩ = some (.int .i64 4) ∧ W.cell? ⟨Ub, 2, none⟩ = some (.string ⟨#[100, 101]⟩) ∧ W.cell? ⟨Ub, 3, none⟩ = some (.string ⟨#[111, 102, 102, 101, 110]⟩) from fun W g => ⟨keep_cell g u0, keep_cell g u1, keep_cell g u2, keep_cell g u3⟩)
      clear u0 u1 u2 u3
      go_wp2_with fail
      go_cut [10, 11, 12] from 44 to 52 (fun s1 s2 s3 wx => ValCut3 wc 2 4 ⟨#[101, 110]⟩ ⟨#[99, 108, 111, 115, 101, 100]⟩ true 0 s1 s2 s3 wx)
      case first =>
        go_region_held3 (fun W => W.cell? ⟨w1.heap.size, 0, none⟩ = some (.slice Ar 1 cr) ∧ W.cell? ⟨w1.heap.size, 1, none⟩ = some (.slice Ab 4 cb) ∧ Grew wc W) (refine heldI wc _ t0 t1 (by repeat (with_reducible first | exact Grew.refl _ | exact GQ.out | refine Grew.drew ?_ | refine Grew.alloc ?_ _ | refine Grew.setCell ?_ (by first | exact Nat.le_refl _ | exact GQ.out.size | simp) _))) ((go_at_call 16; refine (KF3.out _ (GT.out.trans (by repeat (with_reducible first | exact Grew.refl _ | refine Grew.drew ?_ | refine Grew.alloc ?_ _)))).mono ?_; rintro e wq ⟨rfl, gq⟩; have GQ := Lib.hid (show Grew wc wq from Grew.trans (by repeat (with_reducible first | exact Grew.refl _ | refine Grew.drew ?_ | refine Grew.alloc ?_ _)) gq); (try (have hdr : Grew (wc.alloc (.cells [.int .i64 0, .int .i64 0, .string ⟨#[]⟩, .string ⟨#[]⟩].toArray 31)).drew wq := by with_reducible exact gq); (try (have qq := four_cells (heap_keepI (Grew.trans (Grew.refl _).drew hdr) (heap_newI wc (.cells [.int .i64 0, .int .i64 0, .string ⟨#[]⟩, .string ⟨#[]⟩].toArray 31))); obtain ⟨⟨q0, q1, q2, q3⟩, z0, z1, z2, z3⟩ := qq))); clear gq))
        all_goals go_wp2_with fail
        all_goals go_meet
        all_goals with_reducible first | exact val3 (val_meet2 GQ.out) | exact val3 (val_meet q0 q1 q2 q3 (Nat.le_refl _) GQ.out)
      case rest =>
        obtain ⟨⟨Uc, rfl, rfl, u0, u1, u2, u3, GC⟩, rfl⟩ := hcut
        replace GT := Lib.hid (GT.out.trans GC.out)
        replace HTB := Lib.hid (fun W gg => HTB.out W (Grew.trans GC.out gg))
        replace HXa := Lib.hid (fun W gg => HXa.out W (Grew.trans GC.out gg))
        replace HXb := Lib.hid (fun W gg => HXb.out W (Grew.trans GC.out gg))
        clear t0 t1
        obtain ⟨t0, t1⟩ := HTB.out _ (Grew.refl _)
        have u0 := u0.out
        have u1 := u1.out
        have u2 := u2.out
        have u3 := u3.out
        have HXc := Lib.hid (show ∀ W, Grew wc W → W.cell? ⟨Uc, 0, none⟩ = some (.int .i64 2) ∧ W.cell? ⟨Uc, 1, none⟩ = some (.int .i64 4) ∧ W.cell? ⟨Uc, 2, none⟩ = some (.string ⟨#[101, 110]⟩) ∧ W.cell? ⟨Uc, 3, none⟩ = some (.string ⟨#[99, 108, 111, 115, 101, 100]⟩) from fun W g => ⟨keep_cell g u0, keep_cell g u1, keep_cell g u2, keep_cell g u3⟩)
        clear u0 u1 u2 u3
        go_wp2_with fail
        refine (KF4.out _ GT.out).mono ?_
        rintro e wr4 ⟨v4, rfl, ho, gq⟩
        obtain ⟨A4, c4, rfl⟩ := own_slice ho
        have HL4 := Lib.hid (Rd.of_own ho)
        have GQ4 := Lib.hid gq
        clear ho gq
        replace GT := Lib.hid (GT.out.trans GQ4.out)
        replace HTB := Lib.hid (fun W gg => HTB.out W (Grew.trans GQ4.out gg))
        replace HXa := Lib.hid (fun W gg => HXa.out W (Grew.trans GQ4.out gg))
        replace HXb := Lib.hid (fun W gg => HXb.out W (Grew.trans GQ4.out gg))
        replace HXc := Lib.hid (fun W gg => HXc.out W (Grew.trans GQ4.out gg))
        clear t0 t1
        obtain ⟨t0, t1⟩ := HTB.out _ (Grew.refl _)
        dsimp only
        go_wp2_with fail
        go_cut [15, 16] from 60 to 67 (fun s1 s2 wx => LisCut wr4 [1, 5] 0 s1 s2 wx)
        case first =>
          go_region_held3 (fun W => W.cell? ⟨w1.heap.size, 0, none⟩ = some (.slice Ar 1 cr) ∧ W.cell? ⟨w1.heap.size, 1, none⟩ = some (.slice Ab 4 cb) ∧ Grew wr4 W) (refine heldI wr4 _ t0 t1 (by repeat (with_reducible first | exact Grew.refl _ | exact GQ.out | refine Grew.drew ?_ | refine Grew.alloc ?_ _ | refine Grew.setCell ?_ (by first | exact Nat.le_refl _ | exact GQ.out.size | simp) _))) ((go_at_call 20; refine (KF5.out _ (GT.out.trans (by repeat (with_reducible first | exact Grew.refl _ | refine Grew.drew ?_ | refine Grew.alloc ?_ _)))).mono ?_; rintro e wq ⟨vq, rfl, ho, gq⟩; have GQ := Lib.hid (show Grew wr4 wq from Grew.trans (by repeat (with_reducible first | exact Grew.refl _ | refine Grew.drew ?_ | refine Grew.alloc ?_ _)) gq); obtain ⟨Aq, cq, rfl⟩ := own_slice ho; have HO := Lib.hid (Rd.of_own ho); clear ho gq))
          all_goals go_wp2_with fail
          all_goals go_meet
          all_goals exact ⟨⟨Aq, cq, rfl⟩, rfl, (show Aside _ from HO.out), (show Aside _ from GQ.out)⟩
        case rest =>
          obtain ⟨⟨A5, c5, rfl⟩, rfl, HLX, GC⟩ := hcut
          replace GT := Lib.hid (GT.out.trans GC.out)
          replace HTB := Lib.hid (fun W gg => HTB.out W (Grew.trans GC.out gg))
          replace HXa := Lib.hid (fun W gg => HXa.out W (Grew.trans GC.out gg))
          replace HXb := Lib.hid (fun W gg => HXb.out W (Grew.trans GC.out gg))
          replace HXc := Lib.hid (fun W gg => HXc.out W (Grew.trans GC.out gg))
          replace HL4 := Lib.hid (HL4.out.mono GC.out)
          clear t0 t1
          obtain ⟨t0, t1⟩ := HTB.out _ (Grew.refl _)
          have HL5 := Lib.hid HLX.out
          clear HLX
          go_wp2_with fail
          go_cut [17, 18] from 68 to 75 (fun s1 s2 wx => LvsCut wc [iV0] 0 s1 s2 wx)
          case first =>
            go_region_held3 (fun W => W.cell? ⟨w1.heap.size, 0, none⟩ = some (.slice Ar 1 cr) ∧ W.cell? ⟨w1.heap.size, 1, none⟩ = some (.slice Ab 4 cb) ∧ Grew wc W) (refine heldI wc _ t0 t1 (by repeat (with_reducible first | exact Grew.refl _ | exact GQ.out | refine Grew.drew ?_ | refine Grew.alloc ?_ _ | refine Grew.setCell ?_ (by first | exact Nat.le_refl _ | exact GQ.out.size | simp) _))) ((go_at_call 18; refine (KF6.out _ (GT.out.trans (by repeat (with_reducible first | exact Grew.refl _ | refine Grew.drew ?_ | refine Grew.alloc ?_ _)))).mono ?_; rintro e wq ⟨vq, rfl, ho, gq⟩; have GQ := Lib.hid (show Grew wc wq from Grew.trans (by repeat (with_reducible first | exact Grew.refl _ | refine Grew.drew ?_ | refine Grew.alloc ?_ _)) gq); obtain ⟨Aq, cq, rfl⟩ := own_slice ho; have HO := Lib.hid (Rd.of_own ho); clear ho gq))
            all_goals go_wp2_with fail
            all_goals go_meet
            all_goals exact ⟨⟨Aq, cq, rfl⟩, rfl, (show Aside _ from HO.out), (show Aside _ from GQ.out)⟩
          case rest =>
            obtain ⟨⟨A6, c6, rfl⟩, rfl, HLX, GC⟩ := hcut
            replace GT := Lib.hid (GT.out.trans GC.out)
            replace HTB := Lib.hid (fun W gg => HTB.out W (Grew.trans GC.out gg))
            replace HXa := Lib.hid (fun W gg => HXa.out W (Grew.trans GC.out gg))
            replace HXb := Lib.hid (fun W gg => HXb.out W (Grew.trans GC.out gg))
            replace HXc := Lib.hid (fun W gg => HXc.out W (Grew.trans GC.out gg))
            replace HL4 := Lib.hid (HL4.out.mono GC.out)
            replace HL5 := Lib.hid (HL5.out.mono GC.out)
            clear t0 t1
            obtain ⟨t0, t1⟩ := HTB.out _ (Grew.refl _)
            have HL6 := Lib.hid HLX.out
            clear HLX
            go_wp2_with fail
            refine (KF7.out _ GT.out).mono ?_
            rintro e wr7 ⟨v7, rfl, ho, gq⟩
            obtain ⟨A7, c7, rfl⟩ := own_slice ho
            have HL7 := Lib.hid (Rd.of_own ho)
            have GQ7 := Lib.hid gq
            clear ho gq
            replace GT := Lib.hid (GT.out.trans GQ7.out)
            replace HTB := Lib.hid (fun W gg => HTB.out W (Grew.trans GQ7.out gg))
            replace HXa := Lib.hid (fun W gg => HXa.out W (Grew.trans GQ7.out gg))
            replace HXb := Lib.hid (fun W gg => HXb.out W (Grew.trans GQ7.out gg))
            replace HXc := Lib.hid (fun W gg => HXc.out W (Grew.trans GQ7.out gg))
            replace HL4 := Lib.hid (HL4.out.mono GQ7.out)
            replace HL5 := Lib.hid (HL5.out.mono GQ7.out)
            replace HL6 := Lib.hid (HL6.out.mono GQ7.out)
            clear t0 t1
            obtain ⟨t0, t1⟩ := HTB.out _ (Grew.refl _)
            dsimp only
            go_wp2_with fail
            obtain ⟨a0, a1, a2, a3⟩ := HXa.out _ (Grew.refl _)
            obtain ⟨b0, b1, b2, b3⟩ := HXb.out _ (Grew.refl _)
            obtain ⟨k0, k1, k2, k3⟩ := HXc.out _ (Grew.refl _)
            obtain ⟨⟨d0, d1, d2, d3⟩, m0, m1, m2, m3⟩ := HC.out _ GT.out
            have hz4 : ((g7.length : Int) == 4) = true := by rw [h71]; rfl
            clear t0 t1
            have HEND := Lib.hid (show ∀ W, Grew wr7 W → W.cell? ⟨Ua, 0, none⟩ = some (.int .i64 2) ∧ W.cell? ⟨Ua, 1, none⟩ = some (.int .i64 4) ∧ W.cell? ⟨Ua, 2, none⟩ = some (.string ⟨#[101, 110]⟩) ∧ W.cell? ⟨Ua, 3, none⟩ = some (.string ⟨#[99, 108, 111, 115, 101, 100]⟩) ∧ W.cell? ⟨Ub, 0, none⟩ = some (.int .i64 1) ∧ W.cell? ⟨Ub, 1, none⟩ = some (.int .i64 4) ∧ W.cell? ⟨Ub, 2, none⟩ = some (.string ⟨#[100, 101]⟩) ∧ W.cell? ⟨Ub, 3, none⟩ = some (.string ⟨#[111, 102, 102, 101, 110]⟩) ∧ W.cell? ⟨Uc, 0, none⟩ = some (.int .i64 2) ∧ W.cell? ⟨Uc, 1, none⟩ = some (.int .i64 4) ∧ W.cell? ⟨Uc, 2, none⟩ = some (.string ⟨#[101, 110]⟩) ∧ W.cell? ⟨Uc, 3, none⟩ = some (.string ⟨#[99, 108, 111, 115, 101, 100]⟩) ∧ W.cell? ⟨bb, off + 8, none⟩ = some (.int .i64 2) ∧ W.cell? ⟨bb, off + 9, none⟩ = some (.int .i64 4) ∧ W.cell? ⟨bb, off + 10, none⟩ = some (.string ⟨#[101, 110]⟩) ∧ W.cell? ⟨bb, off + 11, none⟩ = some (.string ⟨#[99, 108, 111, 115, 101, 100]⟩) ∧ W.cell? ⟨bb, off, none⟩ = some (.int .i64 1) ∧ W.cell? ⟨bb, off + 1, none⟩ = some (.int .i64 4) ∧ W.cell? ⟨bb, off + 2, none⟩ = some (.string ⟨#[100, 101]⟩) ∧ W.cell? ⟨bb, off + 3, none⟩ = some (.string ⟨#[111, 102, 102, 101, 110]⟩) from fun W g => ⟨keep_cell g a0, keep_cell g a1, keep_cell g a2, keep_cell g a3, keep_cell g b0, keep_cell g b1, keep_cell g b2, keep_cell g b3, keep_cell g k0, keep_cell g k1, keep_cell g k2, keep_cell g k3, keep_cell g m0, keep_cell g m1, keep_cell g m2, keep_cell g m3, keep_cell g d0, keep_cell g d1, keep_cell g d2, keep_cell g d3⟩)
            have HQ3 := Lib.hid (fun W (h : Grew wr7 W) => eqI28 [3] (.slice A4 1 c4) wr7 W [.int .i64 3] 1 rfl rfl (by decide) HL4.out h)
            have HQ15 := Lib.hid (fun W (h : Grew wr7 W) => eqI28 [1, 5] (.slice A5 2 c5) wr7 W [.int .i64 1, .int .i64 5] 2 rfl rfl (by decide) HL5.out h)
            have HQ3d := Lib.hid (fun W (h : Grew wr7 W) => eqI28d [3] (.slice A4 1 c4) wr7 W [.int .i64 3] 1 rfl rfl (by decide) HL4.out h)
            have HQ15d := Lib.hid (fun W (h : Grew wr7 W) => eqI28d [1, 5] (.slice A5 2 c5) wr7 W [.int .i64 1, .int .i64 5] 2 rfl rfl (by decide) HL5.out h)
            have hqvd := fun W (h : Grew wr7 W) => eqV28d iV0 (.slice A6 1 c6) wr7 W HL6.out h
            unfold Val.cells iV0 at hqvd
            dsimp only at hqvd
            have HQVd := Lib.hid hqvd
            clear hqvd
            have hqv := fun W (h : Grew wr7 W) => eqV28 iV0 (.slice A6 1 c6) wr7 W HL6.out h
            unfold Val.cells iV0 at hqv
            dsimp only at hqv
            have HQV := Lib.hid hqv
            clear hqv
            dsimp only [List.length_cons, List.length_nil, Nat.reduceAdd, Nat.zero_add]
            try simp only [List.append_eq, List.cons_append, List.nil_append]
            go_region_held3 (fun W => W.cell? ⟨Ua, 0, none⟩ = some (.int .i64 2) ∧ W.cell? ⟨Ua, 1, none⟩ = some (.int .i64 4) ∧ W.cell? ⟨Ua, 2, none⟩ = some (.string ⟨#[101, 110]⟩) ∧ W.cell? ⟨Ua, 3, none⟩ = some (.string ⟨#[99, 108, 111, 115, 101, 100]⟩) ∧ W.cell? ⟨Ub, 0, none⟩ = some (.int .i64 1) ∧ W.cell? ⟨Ub, 1, none⟩ = some (.int .i64 4) ∧ W.cell? ⟨Ub, 2, none⟩ = some (.string ⟨#[100, 101]⟩) ∧ W.cell? ⟨Ub, 3, none⟩ = some (.string ⟨#[111, 102, 102, 101, 110]⟩) ∧ W.cell? ⟨Uc, 0, none⟩ = some (.int .i64 2) ∧ W.cell? ⟨Uc, 1, none⟩ = some (.int .i64 4) ∧ W.cell? ⟨Uc, 2, none⟩ = some (.string ⟨#[101, 110]⟩) ∧ W.cell? ⟨Uc, 3, none⟩ = some (.string ⟨#[99, 108, 111, 115, 101, 100]⟩) ∧ W.cell? ⟨bb, off + 8, none⟩ = some (.int .i64 2) ∧ W.cell? ⟨bb, off + 9, none⟩ = some (.int .i64 4) ∧ W.cell? ⟨bb, off + 10, none⟩ = some (.string ⟨#[101, 110]⟩) ∧ W.cell? ⟨bb, off + 11, none⟩ = some (.string ⟨#[99, 108, 111, 115, 101, 100]⟩) ∧ W.cell? ⟨bb, off, none⟩ = some (.int .i64 1) ∧ W.cell? ⟨bb, off + 1, none⟩ = some (.int .i64 4) ∧ W.cell? ⟨bb, off + 2, none⟩ = some (.string ⟨#[100, 101]⟩) ∧ W.cell? ⟨bb, off + 3, none⟩ = some (.string ⟨#[111, 102, 102, 101, 110]⟩)) (exact HEND.out _ (by repeat (with_reducible first | exact Grew.refl _ | exact GQ.out | refine Grew.drew ?_ | refine Grew.alloc ?_ _))) (first | (go_at_call 23; (with_reducible first | refine (HQ3.out _ (by repeat (with_reducible first | exact Grew.refl _ | exact GQ.out | refine Grew.drew ?_ | refine Grew.alloc ?_ _))).mono ?_ | refine (HQ3d.out _ (by repeat (with_reducible first | exact Grew.refl _ | exact GQ.out | refine Grew.drew ?_ | refine Grew.alloc ?_ _))).mono ?_); rintro e wq ⟨rfl, gq⟩; have GQ := Lib.hid (show Grew wr7 wq from Grew.trans (by repeat (with_reducible first | exact Grew.refl _ | exact GQ.out | refine Grew.drew ?_ | refine Grew.alloc ?_ _)) gq); clear gq) | (go_at_call 23; (with_reducible first | refine (HQ15.out _ (by repeat (with_reducible first | exact Grew.refl _ | exact GQ.out | refine Grew.drew ?_ | refine Grew.alloc ?_ _))).mono ?_ | refine (HQ15d.out _ (by repeat (with_reducible first | exact Grew.refl _ | exact GQ.out | refine Grew.drew ?_ | refine Grew.alloc ?_ _))).mono ?_); rintro e wq ⟨rfl, gq⟩; have GQ := Lib.hid (show Grew wr7 wq from Grew.trans (by repeat (with_reducible first | exact Grew.refl _ | exact GQ.out | refine Grew.drew ?_ | refine Grew.alloc ?_ _)) gq); clear gq) | (go_at_call 38; (with_reducible first | refine (HQV.out _ (by repeat (with_reducible first | exact Grew.refl _ | exact GQ.out | refine Grew.drew ?_ | refine Grew.alloc ?_ _))).mono ?_ | refine (HQVd.out _ (by repeat (with_reducible first | exact Grew.refl _ | exact GQ.out | refine Grew.drew ?_ | refine Grew.alloc ?_ _))).mono ?_); rintro e wq ⟨rfl, gq⟩; have GQ := Lib.hid (show Grew wr7 wq from Grew.trans (by repeat (with_reducible first | exact Grew.refl _ | exact GQ.out | refine Grew.drew ?_ | refine Grew.alloc ?_ _)) gq); clear gq))
            all_goals go_wp2
            all_goals go_ret
            all_goals exact ⟨rfl, GW1.out.trans (GT.out.trans GQ.out)⟩
end Go.Proofs.YtmbpeniaefpljaaGreatDoor
