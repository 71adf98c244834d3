/- The law RearrangeBack, walked, its awake given. The condition: the library's own variables hold what they must. -/
import Derived.Test.YtafncfomiolmgaaGreatDoorQ27
import Derived.Test.YtafncfomiolmgaaGreatDoorQ29
import Derived.Test.YtafncfomiolmgaaGreatDoorQ30
namespace Go.Proofs.YtafncfomiolmgaaGreatDoor
open Go.RowKit

theorem law_chain {W : World} {H X : Nat} {r b v0 v1 v2 v3 v4 v5 v6 v7 v8 v9 v10 v11 x0 x1 x2 x3 x4 x5 x6 x7 x8 x9 x10 x11 : Value} (hne : H ≠ X ∧ H + 1 ≠ X) (h : W.cell? ⟨H, 0, none⟩ = some (r) ∧ W.cell? ⟨H, 1, none⟩ = some (b) ∧ W.cell? ⟨H + 1, 0, none⟩ = some (v0) ∧ W.cell? ⟨H + 1, 1, none⟩ = some (v1) ∧ W.cell? ⟨H + 1, 2, none⟩ = some (v2) ∧ W.cell? ⟨H + 1, 3, none⟩ = some (v3) ∧ W.cell? ⟨H + 1, 4, none⟩ = some (v4) ∧ W.cell? ⟨H + 1, 5, none⟩ = some (v5) ∧ W.cell? ⟨H + 1, 6, none⟩ = some (v6) ∧ W.cell? ⟨H + 1, 7, none⟩ = some (v7) ∧ W.cell? ⟨H + 1, 8, none⟩ = some (v8) ∧ W.cell? ⟨H + 1, 9, none⟩ = some (v9) ∧ W.cell? ⟨H + 1, 10, none⟩ = some (v10) ∧ W.cell? ⟨H + 1, 11, none⟩ = some (v11)) : ((((((((((((W.setCell ⟨X, 0, none⟩ x0).setCell ⟨X, 1, none⟩ x1).setCell ⟨X, 2, none⟩ x2).setCell ⟨X, 3, none⟩ x3).setCell ⟨X, 4, none⟩ x4).setCell ⟨X, 5, none⟩ x5).setCell ⟨X, 6, none⟩ x6).setCell ⟨X, 7, none⟩ x7).setCell ⟨X, 8, none⟩ x8).setCell ⟨X, 9, none⟩ x9).setCell ⟨X, 10, none⟩ x10).setCell ⟨X, 11, none⟩ x11).cell? ⟨H, 0, none⟩ = some (r) ∧ ((((((((((((W.setCell ⟨X, 0, none⟩ x0).setCell ⟨X, 1, none⟩ x1).setCell ⟨X, 2, none⟩ x2).setCell ⟨X, 3, none⟩ x3).setCell ⟨X, 4, none⟩ x4).setCell ⟨X, 5, none⟩ x5).setCell ⟨X, 6, none⟩ x6).setCell ⟨X, 7, none⟩ x7).setCell ⟨X, 8, none⟩ x8).setCell ⟨X, 9, none⟩ x9).setCell ⟨X, 10, none⟩ x10).setCell ⟨X, 11, none⟩ x11).cell? ⟨H, 1, none⟩ = some (b) ∧ ((((((((((((W.setCell ⟨X, 0, none⟩ x0).setCell ⟨X, 1, none⟩ x1).setCell ⟨X, 2, none⟩ x2).setCell ⟨X, 3, none⟩ x3).setCell ⟨X, 4, none⟩ x4).setCell ⟨X, 5, none⟩ x5).setCell ⟨X, 6, none⟩ x6).setCell ⟨X, 7, none⟩ x7).setCell ⟨X, 8, none⟩ x8).setCell ⟨X, 9, none⟩ x9).setCell ⟨X, 10, none⟩ x10).setCell ⟨X, 11, none⟩ x11).cell? ⟨H + 1, 0, none⟩ = some (v0) ∧ ((((((((((((W.setCell ⟨X, 0, none⟩ x0).setCell ⟨X, 1, none⟩ x1).setCell ⟨X, 2, none⟩ x2).setCell ⟨X, 3, none⟩ x3).setCell ⟨X, 4, none⟩ x4).setCell ⟨X, 5, none⟩ x5).setCell ⟨X, 6, none⟩ x6).setCell ⟨X, 7, none⟩ x7).setCell ⟨X, 8, none⟩ x8).setCell ⟨X, 9, none⟩ x9).setCell ⟨X, 10, none⟩ x10).setCell ⟨X, 11, none⟩ x11).cell? ⟨H + 1, 1, none⟩ = some (v1) ∧ ((((((((((((W.setCell ⟨X, 0, none⟩ x0).setCell ⟨X, 1, none⟩ x1).setCell ⟨X, 2, none⟩ x2).setCell ⟨X, 3, none⟩ x3).setCell ⟨X, 4, none⟩ x4).setCell ⟨X, 5, none⟩ x5).setCell ⟨X, 6, none⟩ x6).setCell ⟨X, 7, none⟩ x7).setCell ⟨X, 8, none⟩ x8).setCell ⟨X, 9, none⟩ x9).setCell ⟨X, 10, none⟩ x10).setCell ⟨X, 11, none⟩ x11).cell? ⟨H + 1, 2, none⟩ = some (v2) ∧ ((((((((((((W.setCell ⟨X, 0, none⟩ x0).setCell ⟨X, 1, none⟩ x1).setCell ⟨X, 2, none⟩ x2).setCell ⟨X, 3, none⟩ x3).setCell ⟨X, 4, none⟩ x4).setCell ⟨X, 5, none⟩ x5).setCell ⟨X, 6, none⟩ x6).setCell ⟨X, 7, none⟩ x7).setCell ⟨X, 8, none⟩ x8).setCell ⟨X, 9, none⟩ x9).setCell ⟨X, 10, none⟩ x10).setCell ⟨X, 11, none⟩ x11).cell? ⟨H + 1, 3, none⟩ = some (v3) ∧ ((((((((((((W.setCell ⟨X, 0, none⟩ x0).setCell ⟨X, 1, none⟩ x1).setCell ⟨X, 2, none⟩ x2).setCell ⟨X, 3, none⟩ x3).setCell ⟨X, 4, none⟩ x4).setCell ⟨X, 5, none⟩ x5).setCell ⟨X, 6, none⟩ x6).setCell ⟨X, 7, none⟩ x7).setCell ⟨X, 8, none⟩ x8).setCell ⟨X, 9, none⟩ x9).setCell ⟨X, 10, none⟩ x10).setCell ⟨X, 11, none⟩ x11).cell? ⟨H + 1, 4, none⟩ = some (v4) ∧ ((((((((((((W.setCell ⟨X, 0, none⟩ x0).setCell ⟨X, 1, none⟩ x1).setCell ⟨X, 2, none⟩ x2).setCell ⟨X, 3, none⟩ x3).setCell ⟨X, 4, none⟩ x4).setCell ⟨X, 5, none⟩ x5).setCell ⟨X, 6, none⟩ x6).setCell ⟨X, 7, none⟩ x7).setCell ⟨X, 8, none⟩ x8).setCell ⟨X, 9, none⟩ x9).setCell ⟨X, 10, none⟩ x10).setCell ⟨X, 11, none⟩ x11).cell? ⟨H + 1, 5, none⟩ = some (v5) ∧ ((((((((((((W.setCell ⟨X, 0, none⟩ x0).setCell ⟨X, 1, none⟩ x1).setCell ⟨X, 2, none⟩ x2).setCell ⟨X, 3, none⟩ x3).setCell ⟨X, 4, none⟩ x4).setCell ⟨X, 5, none⟩ x5).setCell ⟨X, 6, none⟩ x6).setCell ⟨X, 7, none⟩ x7).setCell ⟨X, 8, none⟩ x8).setCell ⟨X, 9, none⟩ x9).setCell ⟨X, 10, none⟩ x10).setCell ⟨X, 11, none⟩ x11).cell? ⟨H + 1, 6, none⟩ = some (v6) ∧ ((((((((((((W.setCell ⟨X, 0, none⟩ x0).setCell ⟨X, 1, none⟩ x1).setCell ⟨X, 2, none⟩ x2).setCell ⟨X, 3, none⟩ x3).setCell ⟨X, 4, none⟩ x4).setCell ⟨X, 5, none⟩ x5).setCell ⟨X, 6, none⟩ x6).setCell ⟨X, 7, none⟩ x7).setCell ⟨X, 8, none⟩ x8).setCell ⟨X, 9, none⟩ x9).setCell ⟨X, 10, none⟩ x10).setCell ⟨X, 11, none⟩ x11).cell? ⟨H + 1, 7, none⟩ = some (v7) ∧ ((((((((((((W.setCell ⟨X, 0, none⟩ x0).setCell ⟨X, 1, none⟩ x1).setCell ⟨X, 2, none⟩ x2).setCell ⟨X, 3, none⟩ x3).setCell ⟨X, 4, none⟩ x4).setCell ⟨X, 5, none⟩ x5).setCell ⟨X, 6, none⟩ x6).setCell ⟨X, 7, none⟩ x7).setCell ⟨X, 8, none⟩ x8).setCell ⟨X, 9, none⟩ x9).setCell ⟨X, 10, none⟩ x10).setCell ⟨X, 11, none⟩ x11).cell? ⟨H + 1, 8, none⟩ = some (v8) ∧ ((((((((((((W.setCell ⟨X, 0, none⟩ x0).setCell ⟨X, 1, none⟩ x1).setCell ⟨X, 2, none⟩ x2).setCell ⟨X, 3, none⟩ x3).setCell ⟨X, 4, none⟩ x4).setCell ⟨X, 5, none⟩ x5).setCell ⟨X, 6, none⟩ x6).setCell ⟨X, 7, none⟩ x7).setCell ⟨X, 8, none⟩ x8).setCell ⟨X, 9, none⟩ x9).setCell ⟨X, 10, none⟩ x10).setCell ⟨X, 11, none⟩ x11).cell? ⟨H + 1, 9, none⟩ = some (v9) ∧ ((((((((((((W.setCell ⟨X, 0, none⟩ x0).setCell ⟨X, 1, none⟩ x1).setCell ⟨X, 2, none⟩ x2).setCell ⟨X, 3, none⟩ x3).setCell ⟨X, 4, none⟩ x4).setCell ⟨X, 5, none⟩ x5).setCell ⟨X, 6, none⟩ x6).setCell ⟨X, 7, none⟩ x7).setCell ⟨X, 8, none⟩ x8).setCell ⟨X, 9, none⟩ x9).setCell ⟨X, 10, none⟩ x10).setCell ⟨X, 11, none⟩ x11).cell? ⟨H + 1, 10, none⟩ = some (v10) ∧ ((((((((((((W.setCell ⟨X, 0, none⟩ x0).setCell ⟨X, 1, none⟩ x1).setCell ⟨X, 2, none⟩ x2).setCell ⟨X, 3, none⟩ x3).setCell ⟨X, 4, none⟩ x4).setCell ⟨X, 5, none⟩ x5).setCell ⟨X, 6, none⟩ x6).setCell ⟨X, 7, none⟩ x7).setCell ⟨X, 8, none⟩ x8).setCell ⟨X, 9, none⟩ x9).setCell ⟨X, 10, none⟩ x10).setCell ⟨X, 11, none⟩ x11).cell? ⟨H + 1, 11, none⟩ = some (v11) := by
  have k0 : ∀ j, ((((((((((((W.setCell ⟨X, 0, none⟩ x0).setCell ⟨X, 1, none⟩ x1).setCell ⟨X, 2, none⟩ x2).setCell ⟨X, 3, none⟩ x3).setCell ⟨X, 4, none⟩ x4).setCell ⟨X, 5, none⟩ x5).setCell ⟨X, 6, none⟩ x6).setCell ⟨X, 7, none⟩ x7).setCell ⟨X, 8, none⟩ x8).setCell ⟨X, 9, none⟩ x9).setCell ⟨X, 10, none⟩ x10).setCell ⟨X, 11, none⟩ x11).cell? ⟨H, j, none⟩ = W.cell? ⟨H, j, none⟩ := fun j => by
    rw [World.cell?_setCell_other _ _ _ _ (adr_ne hne.1.symm), World.cell?_setCell_other _ _ _ _ (adr_ne hne.1.symm), World.cell?_setCell_other _ _ _ _ (adr_ne hne.1.symm), World.cell?_setCell_other _ _ _ _ (adr_ne hne.1.symm), World.cell?_setCell_other _ _ _ _ (adr_ne hne.1.symm), World.cell?_setCell_other _ _ _ _ (adr_ne hne.1.symm), World.cell?_setCell_other _ _ _ _ (adr_ne hne.1.symm), World.cell?_setCell_other _ _ _ _ (adr_ne hne.1.symm), World.cell?_setCell_other _ _ _ _ (adr_ne hne.1.symm), World.cell?_setCell_other _ _ _ _ (adr_ne hne.1.symm), World.cell?_setCell_other _ _ _ _ (adr_ne hne.1.symm), World.cell?_setCell_other _ _ _ _ (adr_ne hne.1.symm)]
  have k1 : ∀ j, ((((((((((((W.setCell ⟨X, 0, none⟩ x0).setCell ⟨X, 1, none⟩ x1).setCell ⟨X, 2, none⟩ x2).setCell ⟨X, 3, none⟩ x3).setCell ⟨X, 4, none⟩ x4).setCell ⟨X, 5, none⟩ x5).setCell ⟨X, 6, none⟩ x6).setCell ⟨X, 7, none⟩ x7).setCell ⟨X, 8, none⟩ x8).setCell ⟨X, 9, none⟩ x9).setCell ⟨X, 10, none⟩ x10).setCell ⟨X, 11, none⟩ x11).cell? ⟨H + 1, j, none⟩ = W.cell? ⟨H + 1, j, none⟩ := fun j => by
    rw [World.cell?_setCell_other _ _ _ _ (adr_ne hne.2.symm), World.cell?_setCell_other _ _ _ _ (adr_ne hne.2.symm), World.cell?_setCell_other _ _ _ _ (adr_ne hne.2.symm), World.cell?_setCell_other _ _ _ _ (adr_ne hne.2.symm), World.cell?_setCell_other _ _ _ _ (adr_ne hne.2.symm), World.cell?_setCell_other _ _ _ _ (adr_ne hne.2.symm), World.cell?_setCell_other _ _ _ _ (adr_ne hne.2.symm), World.cell?_setCell_other _ _ _ _ (adr_ne hne.2.symm), World.cell?_setCell_other _ _ _ _ (adr_ne hne.2.symm), World.cell?_setCell_other _ _ _ _ (adr_ne hne.2.symm), World.cell?_setCell_other _ _ _ _ (adr_ne hne.2.symm), World.cell?_setCell_other _ _ _ _ (adr_ne hne.2.symm)]
  simp only [k0, k1]
  exact h
theorem xy_grow {W W2 : World} {X Y : Nat} {r b v0 v1 v2 v3 v4 v5 v6 v7 v8 v9 v10 v11 : Value} (h : W.cell? ⟨X, 0, none⟩ = some r ∧ W.cell? ⟨X, 1, none⟩ = some b ∧ W.cell? ⟨Y, 0, none⟩ = some (v0) ∧ W.cell? ⟨Y, 1, none⟩ = some (v1) ∧ W.cell? ⟨Y, 2, none⟩ = some (v2) ∧ W.cell? ⟨Y, 3, none⟩ = some (v3) ∧ W.cell? ⟨Y, 4, none⟩ = some (v4) ∧ W.cell? ⟨Y, 5, none⟩ = some (v5) ∧ W.cell? ⟨Y, 6, none⟩ = some (v6) ∧ W.cell? ⟨Y, 7, none⟩ = some (v7) ∧ W.cell? ⟨Y, 8, none⟩ = some (v8) ∧ W.cell? ⟨Y, 9, none⟩ = some (v9) ∧ W.cell? ⟨Y, 10, none⟩ = some (v10) ∧ W.cell? ⟨Y, 11, none⟩ = some (v11)) (g : Grew W W2) : W2.cell? ⟨X, 0, none⟩ = some r ∧ W2.cell? ⟨X, 1, none⟩ = some b ∧ W2.cell? ⟨Y, 0, none⟩ = some (v0) ∧ W2.cell? ⟨Y, 1, none⟩ = some (v1) ∧ W2.cell? ⟨Y, 2, none⟩ = some (v2) ∧ W2.cell? ⟨Y, 3, none⟩ = some (v3) ∧ W2.cell? ⟨Y, 4, none⟩ = some (v4) ∧ W2.cell? ⟨Y, 5, none⟩ = some (v5) ∧ W2.cell? ⟨Y, 6, none⟩ = some (v6) ∧ W2.cell? ⟨Y, 7, none⟩ = some (v7) ∧ W2.cell? ⟨Y, 8, none⟩ = some (v8) ∧ W2.cell? ⟨Y, 9, none⟩ = some (v9) ∧ W2.cell? ⟨Y, 10, none⟩ = some (v10) ∧ W2.cell? ⟨Y, 11, none⟩ = some (v11) := by
  obtain ⟨r0, b0, h0, h1, h2, h3, h4, h5, h6, h7, h8, h9, h10, h11⟩ := h
  exact ⟨keep_cell g r0, keep_cell g b0, keep_cell g h0, keep_cell g h1, keep_cell g h2, keep_cell g h3, keep_cell g h4, keep_cell g h5, keep_cell g h6, keep_cell g h7, keep_cell g h8, keep_cell g h9, keep_cell g h10, keep_cell g h11⟩
theorem back_plain (t : Tr) (o : Opn) : ((applyR t o).2 ≠ 0 → oppR t o = (opn0, (applyR t o).2)) ∧ ((applyR t o).2 = 0 → RightT t ∧ RightT (applyR t o).1 ∧ (oppR t o).2 = 0 ∧ applyR (applyR t o).1 (oppR t o).1 = (t, 0) ∧ (Lit.int .i64 (oppR t o).1.kind).wf = true) := by
  refine ⟨fun h => by unfold oppR; rw [if_neg h], fun h => ?_⟩
  obtain ⟨hT, hU, -, hf, -, -⟩ := applyR_parts h
  have ho : oppR t o = (oppO t o, 0) := by unfold oppR; rw [if_pos h]
  rw [ho]
  refine ⟨hT, hU, rfl, applyR_back h, ?_⟩
  obtain ⟨h1, h2⟩ := opp_formed (right_sound hT) hf
  rcases kind_of h1 h2 with e | e | e | e | e <;> (show (Lit.int .i64 (oppO t o).kind).wf = true) <;> rw [e] <;> decide
set_option maxHeartbeats 16000000 in
set_option maxRecDepth 100000 in
theorem back_of (t : Tr) (o : Opn) (rv bv : Value) (w : World) (hE : Env w) (hr : SlI w rv t.roots) (hb : SlBr w bv t.brs) (hkw : (Lit.int .i64 o.kind).wf = true) (hA : ∀ W, Grew w W → Calls Tryz.prog 11 #[] W fun e w' => e = .returned (.bool true) ∧ Grew W w') : Calls Tryz.prog 7 #[.agg #[rv, bv], o.agg] w fun e w' => e = .returned (.bool true) ∧ Grew w w' := by
  have KA := Lib.hid hA
  have kW := fun W (hW : Grew w W) => fewLaw t o rv bv W (hr.mono hW) (hb.mono hW)
  have kC := fun W (hW : Grew w W) (hf : FewTM t.roots t.brs) => cpTr t rv bv W (hr.mono hW) (hb.mono hW) hf.br hf.rs
  have kC2 := fun (x : Tr) W rx bx (ht : TrOk W rx bx x) (hx : RightT x) => cpTr x rx bx W ht.1 ht.2 (right_few hx).1 (right_few hx).2
  have kP := fun W rx bx (hW : Grew w W) (ht : TrOk W rx bx t) (hf : FewTM t.roots t.brs) => rApply t o rx bx W (hE.mono hW) ht.1 ht.2 hf.br hf.rs hkw
  have kO := fun W rx bx (hW : Grew w W) (ht : TrOk W rx bx t) (hf : FewTM t.roots t.brs) => rOpposite t o rx bx W (hE.mono hW) ht.1 ht.2 hf.br hf.rs hkw
  have kP2 := fun (x : Tr) (p : Opn) W rx bx (hW : Grew w W) (ht : TrOk W rx bx x) (hx : RightT x) (hk : (Lit.int .i64 p.kind).wf = true) => rApply x p rx bx W (hE.mono hW) ht.1 ht.2 (right_few hx).1 (right_few hx).2 hk
  have kCh := fun (x y : Tr) W ra ba rb bb (hW : Grew w W) (h1 : TrOk W ra ba x) (h2 : TrOk W rb bb y) (hx : RightT x) (hy : RightT y) => (rChanged x y ra ba rb bb W (hE.mono hW) h1.1 h1.2 h2.1 h2.2 (right_few hx).1 (right_few hy).1 (right_few hx).2 (right_few hy).2).mono fun _ _ h => chg_yes hx hy h
  have HTT := Lib.hid (fun W (hW : Grew w W) => (⟨hr.mono hW, hb.mono hW⟩ : TrOk W rv bv t))
  have hP := back_plain t o
  generalize applyR t o = R at kP hP
  obtain ⟨U, n⟩ := R
  generalize oppR t o = RO at kO hP
  obtain ⟨PP, mm⟩ := RO
  have KP2 := Lib.hid kP2
  have KCH := Lib.hid kCh
  unfold RetOp at kO
  clear kP2 kCh hE
  obtain ⟨p0, p1, p2, p3, p4, p5, p6, p7, p8, p9, p10, p11⟩ := PP
  obtain ⟨Ar, cr, rfl, -⟩ := hr.open_
  obtain ⟨Ab, cb, rfl, -⟩ := hb.open_
  have HB := Lib.hid (fun (r b : Value) W (g : Grew ((w.alloc (.cells [r, b].toArray 35)).alloc (.cells o.cells.toArray 25)) W) => law_cells o g)
  generalize hFO : FewO o = FO at kW
  obtain ⟨i, d, k, u, p, b, l, tt, m, x9, x10, x11⟩ := o
  unfold Opn.agg at kW kP kO ⊢
  unfold Opn.cells at HB
  dsimp only at kW kP kO HB ⊢
  dsimp only at hP
  have HP := Lib.hid hP
  clear hP
  have KW := Lib.hid kW
  have KP := Lib.hid kP
  have KO := Lib.hid kO
  have KC := Lib.hid kC
  have KC2 := Lib.hid kC2
  clear kW kP kO kC kC2 hr hb hA
  go_enter Tryz.func7, Tryz.ntmps7
  go_wp2_with fail
  refine (KA.out _ (((Grew.refl w).alloc _).alloc _)).mono ?_
  rintro e wa ⟨rfl, ga⟩
  have hh := HB.out _ _ wa ga
  have HG1 := Lib.hid ((((Grew.refl w).alloc _).alloc _).trans ga)
  have HS1 := Lib.hid hh
  clear ga HB
  obtain ⟨r0, b0, a0, a1, a2, a3, a4, a5, a6, a7, a8, a9, a10, a11⟩ := hh
  dsimp only
  go_wp2_with fail
  refine (KW.out _ HG1.out).mono ?_
  rintro e wb ⟨q, rfl, hq, gb⟩
  have HS0 := Lib.hid (law_grow HS1.out gb)
  have HG2 := Lib.hid (HG1.out.trans gb)
  have HQ := Lib.hid hq
  clear hq gb HG1 HS1 r0 b0 a0 a1 a2 a3 a4 a5 a6 a7 a8 a9 a10 a11
  dsimp only
  cases q
  · clear HQ
    go_wp2_with fail
    refine (KA.out _ HG2.out).mono ?_
    rintro e wz ⟨rfl, g3⟩
    have HG3 := Lib.hid (HG2.out.trans g3)
    clear g3
    dsimp only
    go_wp2
    go_ret
    exact ⟨rfl, HG3.out⟩
  have HF := Lib.hid (HQ.out rfl).1
  clear HQ
  go_wp2_with fail
  go_cut [5, 6] from 24 to 31 (fun s5 s6 wx => ApCut wb (U, (n : Int)) s5 s6 wx)
  case first =>
    skip
    go_region_held3 (fun W => W.cell? ⟨w.heap.size, 0, none⟩ = some (.slice Ar t.roots.length cr) ∧ W.cell? ⟨w.heap.size, 1, none⟩ = some (.slice Ab t.brs.length cb) ∧ W.cell? ⟨w.heap.size + 1, 0, none⟩ = some (.int .i64 i) ∧ W.cell? ⟨w.heap.size + 1, 1, none⟩ = some (.int .i64 d) ∧ W.cell? ⟨w.heap.size + 1, 2, none⟩ = some (.int .i64 k) ∧ W.cell? ⟨w.heap.size + 1, 3, none⟩ = some (.int .i64 u) ∧ W.cell? ⟨w.heap.size + 1, 4, none⟩ = some (.int .i64 p) ∧ W.cell? ⟨w.heap.size + 1, 5, none⟩ = some (.int .i64 b) ∧ W.cell? ⟨w.heap.size + 1, 6, none⟩ = some (.int .i64 l) ∧ W.cell? ⟨w.heap.size + 1, 7, none⟩ = some (.string tt) ∧ W.cell? ⟨w.heap.size + 1, 8, none⟩ = some (.string m) ∧ W.cell? ⟨w.heap.size + 1, 9, none⟩ = some (.int .i64 x9) ∧ W.cell? ⟨w.heap.size + 1, 10, none⟩ = some (.int .i64 x10) ∧ W.cell? ⟨w.heap.size + 1, 11, none⟩ = some (.int .i64 x11)) (exact law_grow HS0.out (by repeat (first | exact Grew.refl _ | exact GB2.out | exact GB1.out | refine Grew.drew ?_ | refine Grew.alloc ?_ _ | refine Grew.setCell ?_ (by first | exact Nat.le_refl _ | exact GB1.out.size | exact GB2.out.size | simp) _))) (first | (go_at_call 19; refine (KC.out _ (HG2.out.trans (by repeat (first | exact Grew.refl _ | refine Grew.drew ?_ | refine Grew.alloc ?_ _))) HF.out).mono ?_; rintro e w1 ⟨rv1, bv1, rfl, ht1, g1⟩; have GB1 := Lib.hid (show Grew wb w1 from Grew.trans (by repeat (first | exact Grew.refl _ | refine Grew.drew ?_ | refine Grew.alloc ?_ _)) g1); obtain ⟨A1, k1, rfl, -⟩ := SlI.open_ ht1.1; obtain ⟨A2, k2, rfl, -⟩ := SlBr.open_ ht1.2; have HT1 := Lib.hid ht1; (first | have Na1 := Lib.hid (show Grew (wb.alloc (.cells [.slice none 0 0, .slice none 0 0].toArray 35)) w1 from Grew.trans (Grew.refl _).drew g1) | have Na1 := Lib.hid (show Grew (wb.alloc (.cells [.slice none 0 0, .slice none 0 0].toArray 35)) w1 from Grew.trans (Grew.refl _) g1) | skip); clear ht1 g1) | (go_at_call 18; refine (KP.out _ _ _ (HG2.out.trans (by repeat (first | exact Grew.refl _ | exact GB1.out | refine Grew.drew ?_ | refine Grew.alloc ?_ _))) (HT1.out.mono (by repeat (first | exact Grew.refl _ | refine Grew.drew ?_ | refine Grew.alloc ?_ _))) HF.out).mono ?_; rintro e w2 ⟨rv2, bv2, rfl, ht2, g2⟩; have GX := Lib.hid (show Grew w1 w2 from Grew.trans (by repeat (first | exact Grew.refl _ | refine Grew.drew ?_ | refine Grew.alloc ?_ _)) g2); have GB2 := Lib.hid (GB1.out.trans GX.out); obtain ⟨B1, l1, rfl, -⟩ := SlI.open_ ht2.1; obtain ⟨B2, l2, rfl, -⟩ := SlBr.open_ ht2.2; have HT2 := Lib.hid ht2; (try have PA := heap_grew (Na1.out.trans GX.out) (heap_allocE (a := wb) (p := (.cells [.slice none 0 0, .slice none 0 0].toArray 35)) rfl)); (first | have PB := heap_grew (show Grew (w1.alloc (.cells [.slice none 0 0, .slice none 0 0].toArray 35)) w2 from Grew.trans (Grew.refl _).drew g2) (heap_allocE (a := w1) (p := (.cells [.slice none 0 0, .slice none 0 0].toArray 35)) rfl) | have PB := heap_grew (show Grew (w1.alloc (.cells [.slice none 0 0, .slice none 0 0].toArray 35)) w2 from Grew.trans (Grew.refl _) g2) (heap_allocE (a := w1) (p := (.cells [.slice none 0 0, .slice none 0 0].toArray 35)) rfl) | skip); (try have pa0 := (zt_facts PA).1); (try have pa1 := (zt_facts PA).2.1); (try have pa2 := (zt_facts PA).2.2.1); (try have pa3 := (zt_facts PA).2.2.2); (try have pb0 := (zt_facts PB).1); (try have pb1 := (zt_facts PB).2.1); (try have pb2 := (zt_facts PB).2.2.1); (try have pb3 := (zt_facts PB).2.2.2); clear ht2 g2))
    all_goals go_wp2_with fail
    all_goals go_meet
    all_goals first | exact ap_meet2 GB2.out HT2.out | exact ap_meet PA (Nat.le_refl _) GB2.out HT2.out | exact ap_meet PB GB1.out.size GB2.out HT2.out
  case rest =>
    skip
    obtain ⟨X, rvU, bvU, rfl, rfl, x0, x1, hTU, hgU⟩ := hcut
    have HSU := Lib.hid (law_grow HS0.out hgU)
    have HGU := Lib.hid (HG2.out.trans hgU)
    obtain ⟨W1, hW1⟩ : ∃ W1, W1 = wc := ⟨_, rfl⟩
    subst hW1
    have HX := Lib.hid (show W1.cell? ⟨X, 0, none⟩ = some rvU ∧ W1.cell? ⟨X, 1, none⟩ = some bvU ∧ TrOk W1 rvU bvU U from ⟨x0, x1, hTU⟩)
    obtain ⟨A5, k5, rfl, -⟩ := SlI.open_ hTU.1
    obtain ⟨B5, l5, rfl, -⟩ := SlBr.open_ hTU.2
    clear x0 x1 hTU hgU HS0 KP
    go_wp2_with fail
    have HL1 := Lib.hid (World.block_lt_of_cell? _ _ HSU.out.2.2.1 : w.heap.size + 1 < W1.heap.size)
    have HN1 := Lib.hid (show w.heap.size ≠ W1.heap.size ∧ w.heap.size + 1 ≠ W1.heap.size from ⟨Nat.ne_of_lt (Nat.lt_trans (Nat.lt_succ_self _) HL1.out), Nat.ne_of_lt HL1.out⟩)
    go_cut [7, 8] from 31 to 38 (fun s7 s8 wx => OpCut W1 mm [.int .i64 p0, .int .i64 p1, .int .i64 p2, .int .i64 p3, .int .i64 p4, .int .i64 p5, .int .i64 p6, .string p7, .string p8, .int .i64 p9, .int .i64 p10, .int .i64 p11] s7 s8 wx)
    case first =>
      go_region_held3 (fun W => W.cell? ⟨w.heap.size, 0, none⟩ = some (.slice Ar t.roots.length cr) ∧ W.cell? ⟨w.heap.size, 1, none⟩ = some (.slice Ab t.brs.length cb) ∧ W.cell? ⟨w.heap.size + 1, 0, none⟩ = some (.int .i64 i) ∧ W.cell? ⟨w.heap.size + 1, 1, none⟩ = some (.int .i64 d) ∧ W.cell? ⟨w.heap.size + 1, 2, none⟩ = some (.int .i64 k) ∧ W.cell? ⟨w.heap.size + 1, 3, none⟩ = some (.int .i64 u) ∧ W.cell? ⟨w.heap.size + 1, 4, none⟩ = some (.int .i64 p) ∧ W.cell? ⟨w.heap.size + 1, 5, none⟩ = some (.int .i64 b) ∧ W.cell? ⟨w.heap.size + 1, 6, none⟩ = some (.int .i64 l) ∧ W.cell? ⟨w.heap.size + 1, 7, none⟩ = some (.string tt) ∧ W.cell? ⟨w.heap.size + 1, 8, none⟩ = some (.string m) ∧ W.cell? ⟨w.heap.size + 1, 9, none⟩ = some (.int .i64 x9) ∧ W.cell? ⟨w.heap.size + 1, 10, none⟩ = some (.int .i64 x10) ∧ W.cell? ⟨w.heap.size + 1, 11, none⟩ = some (.int .i64 x11)) (first | (with_reducible exact law_chain HN3.out (law_grow HSU.out GB2.out)) | (with_reducible exact law_chain HN2.out (law_grow HSU.out GB2.out)) | exact law_grow HSU.out (by repeat (first | exact Grew.refl _ | exact GB2.out | exact GB1.out | refine Grew.drew ?_ | refine Grew.alloc ?_ _))) (first | (go_at_call 19; refine (KC.out _ (HGU.out.trans (by repeat (first | exact Grew.refl _ | refine Grew.drew ?_ | refine Grew.alloc ?_ _))) HF.out).mono ?_; rintro e w1 ⟨rv1, bv1, rfl, ht1, g1⟩; have GB1 := Lib.hid (show Grew W1 w1 from Grew.trans (by repeat (first | exact Grew.refl _ | refine Grew.drew ?_ | refine Grew.alloc ?_ _)) g1); obtain ⟨A1, k1, rfl, -⟩ := SlI.open_ ht1.1; obtain ⟨A2, k2, rfl, -⟩ := SlBr.open_ ht1.2; have HT1 := Lib.hid ht1; have HN2 := Lib.hid (show w.heap.size ≠ w1.heap.size ∧ w.heap.size + 1 ≠ w1.heap.size from ⟨Nat.ne_of_lt (Nat.lt_trans (Nat.lt_succ_self _) (Nat.lt_of_lt_of_le HL1.out GB1.out.size)), Nat.ne_of_lt (Nat.lt_of_lt_of_le HL1.out GB1.out.size)⟩); (first | have Na1 := Lib.hid (show Grew (W1.alloc (.cells [.int .i64 0, .int .i64 0, .int .i64 0, .int .i64 0, .int .i64 0, .int .i64 0, .int .i64 0, .string ⟨#[]⟩, .string ⟨#[]⟩, .int .i64 0, .int .i64 0, .int .i64 0].toArray 25)) w1 from Grew.trans (Grew.refl _).drew g1) | have Na1 := Lib.hid (show Grew (W1.alloc (.cells [.int .i64 0, .int .i64 0, .int .i64 0, .int .i64 0, .int .i64 0, .int .i64 0, .int .i64 0, .string ⟨#[]⟩, .string ⟨#[]⟩, .int .i64 0, .int .i64 0, .int .i64 0].toArray 25)) w1 from Grew.trans (Grew.refl _) g1) | skip); clear ht1 g1) | (go_at_call 23; refine (KO.out _ _ _ (HGU.out.trans (by repeat (first | exact Grew.refl _ | exact GB1.out | refine Grew.drew ?_ | refine Grew.alloc ?_ _))) (HT1.out.mono (by repeat (first | exact Grew.refl _ | refine Grew.drew ?_ | refine Grew.alloc ?_ _))) HF.out).mono ?_; rintro e w2 ⟨rfl, g2⟩; have GX := Lib.hid (show Grew w1 w2 from Grew.trans (by repeat (first | exact Grew.refl _ | refine Grew.drew ?_ | refine Grew.alloc ?_ _)) g2); have GB2 := Lib.hid (GB1.out.trans GX.out); (try have PA := heap_grew (Na1.out.trans GX.out) (heap_allocE (a := W1) (p := (.cells [.int .i64 0, .int .i64 0, .int .i64 0, .int .i64 0, .int .i64 0, .int .i64 0, .int .i64 0, .string ⟨#[]⟩, .string ⟨#[]⟩, .int .i64 0, .int .i64 0, .int .i64 0].toArray 25)) rfl)); (first | have PB := heap_grew (show Grew (w1.alloc (.cells [.int .i64 0, .int .i64 0, .int .i64 0, .int .i64 0, .int .i64 0, .int .i64 0, .int .i64 0, .string ⟨#[]⟩, .string ⟨#[]⟩, .int .i64 0, .int .i64 0, .int .i64 0].toArray 25)) w2 from Grew.trans (Grew.refl _).drew g2) (heap_allocE (a := w1) (p := (.cells [.int .i64 0, .int .i64 0, .int .i64 0, .int .i64 0, .int .i64 0, .int .i64 0, .int .i64 0, .string ⟨#[]⟩, .string ⟨#[]⟩, .int .i64 0, .int .i64 0, .int .i64 0].toArray 25)) rfl) | have PB := heap_grew (show Grew (w1.alloc (.cells [.int .i64 0, .int .i64 0, .int .i64 0, .int .i64 0, .int .i64 0, .int .i64 0, .int .i64 0, .string ⟨#[]⟩, .string ⟨#[]⟩, .int .i64 0, .int .i64 0, .int .i64 0].toArray 25)) w2 from Grew.trans (Grew.refl _) g2) (heap_allocE (a := w1) (p := (.cells [.int .i64 0, .int .i64 0, .int .i64 0, .int .i64 0, .int .i64 0, .int .i64 0, .int .i64 0, .string ⟨#[]⟩, .string ⟨#[]⟩, .int .i64 0, .int .i64 0, .int .i64 0].toArray 25)) rfl) | skip); (try (have PAz := PA; have hEX : ∃ XX, XX = W1.heap.size := ⟨_, rfl⟩; obtain ⟨XX, hXX⟩ := hEX; rw [← hXX] at PAz ⊢; have PX := zo_facts PAz; obtain ⟨⟨pa0, pa1, pa2, pa3, pa4, pa5, pa6, pa7, pa8, pa9, pa10, pa11⟩, paz⟩ := PX; have paz0 := paz 0; have paz1 := paz 1; have paz2 := paz 2; have paz3 := paz 3; have paz4 := paz 4; have paz5 := paz 5; have paz6 := paz 6; have paz7 := paz 7; have paz8 := paz 8; have paz9 := paz 9; have paz10 := paz 10; have paz11 := paz 11; clear paz; have HXX := Lib.hid hXX; have HN3 := Lib.hid (show w.heap.size ≠ XX ∧ w.heap.size + 1 ≠ XX from hXX ▸ HN1.out); clear hXX PA)); (try (have pbf := zo_facts PB; obtain ⟨⟨pb0, pb1, pb2, pb3, pb4, pb5, pb6, pb7, pb8, pb9, pb10, pb11⟩, pbz⟩ := pbf; have pbz0 := pbz 0; have pbz1 := pbz 1; have pbz2 := pbz 2; have pbz3 := pbz 3; have pbz4 := pbz 4; have pbz5 := pbz 5; have pbz6 := pbz 6; have pbz7 := pbz 7; have pbz8 := pbz 8; have pbz9 := pbz 9; have pbz10 := pbz 10; have pbz11 := pbz 11; clear pbz)); clear g2))
      all_goals go_wp2_with fail
      all_goals go_meet
      all_goals with_reducible first | exact op_meet2 GB2.out | exact op_meet PAz (Nat.le_of_eq HXX.out.symm) GB2.out | exact op_meet PB GB1.out.size GB2.out
    case rest =>
      obtain ⟨W2, hW2⟩ : ∃ W2, W2 = wc := ⟨_, rfl⟩
      subst hW2
      obtain ⟨Y, rfl, rfl, hO, hgO⟩ := hcut
      have HO := Lib.hid (show W2.cell? ⟨Y, 0, none⟩ = some (.int .i64 p0) ∧ W2.cell? ⟨Y, 1, none⟩ = some (.int .i64 p1) ∧ W2.cell? ⟨Y, 2, none⟩ = some (.int .i64 p2) ∧ W2.cell? ⟨Y, 3, none⟩ = some (.int .i64 p3) ∧ W2.cell? ⟨Y, 4, none⟩ = some (.int .i64 p4) ∧ W2.cell? ⟨Y, 5, none⟩ = some (.int .i64 p5) ∧ W2.cell? ⟨Y, 6, none⟩ = some (.int .i64 p6) ∧ W2.cell? ⟨Y, 7, none⟩ = some (.string p7) ∧ W2.cell? ⟨Y, 8, none⟩ = some (.string p8) ∧ W2.cell? ⟨Y, 9, none⟩ = some (.int .i64 p9) ∧ W2.cell? ⟨Y, 10, none⟩ = some (.int .i64 p10) ∧ W2.cell? ⟨Y, 11, none⟩ = some (.int .i64 p11) from ⟨hO 0 _ rfl, hO 1 _ rfl, hO 2 _ rfl, hO 3 _ rfl, hO 4 _ rfl, hO 5 _ rfl, hO 6 _ rfl, hO 7 _ rfl, hO 8 _ rfl, hO 9 _ rfl, hO 10 _ rfl, hO 11 _ rfl⟩)
      replace HSU := Lib.hid (law_grow HSU.out hgO)
      replace HX := Lib.hid (show _ ∧ _ ∧ _ from ⟨keep_cell hgO HX.out.1, keep_cell hgO HX.out.2.1, HX.out.2.2.mono hgO⟩)
      replace HGU := Lib.hid (HGU.out.trans hgO)
      clear hO hgO HL1 HN1 KO
      by_cases hn : n = 0
      rotate_left
      · have hnb : (n != 0) = true := by simpa using hn
        have he := HP.out.1 hn
        simp only [Prod.mk.injEq, Opn.mk.injEq, opn0] at he
        obtain ⟨⟨rfl, rfl, rfl, rfl, rfl, rfl, rfl, rfl, rfl, rfl, rfl, rfl⟩, rfl⟩ := he
        obtain ⟨o0, o1, o2, o3, o4, o5, o6, o7, o8, o9, o10, o11⟩ := HO.out
        clear HP hn KP2 KC KC2 KCH HX HSU HO
        go_wp2
        go_ret
        exact ⟨ret_bool (by simp), HGU.out⟩
      subst hn
      obtain ⟨hRt, hRU, rfl, hap, hkp⟩ := HP.out.2 rfl
      have HRT := Lib.hid hRt
      have HRU := Lib.hid hRU
      have kq := fun W rx bx (hW : Grew w W) (ht : TrOk W rx bx U) => KP2.out U ⟨p0, p1, p2, p3, p4, p5, p6, p7, p8, p9, p10, p11⟩ W rx bx hW ht hRU hkp
      rw [hap] at kq
      unfold Opn.agg at kq
      dsimp only at kq
      have KQ := Lib.hid kq
      clear kq hap hkp KP2 HP hRt hRU
      have HXY := Lib.hid (show W2.cell? ⟨X, 0, none⟩ = some _ ∧ W2.cell? ⟨X, 1, none⟩ = some _ ∧ W2.cell? ⟨Y, 0, none⟩ = some (.int .i64 p0) ∧ W2.cell? ⟨Y, 1, none⟩ = some (.int .i64 p1) ∧ W2.cell? ⟨Y, 2, none⟩ = some (.int .i64 p2) ∧ W2.cell? ⟨Y, 3, none⟩ = some (.int .i64 p3) ∧ W2.cell? ⟨Y, 4, none⟩ = some (.int .i64 p4) ∧ W2.cell? ⟨Y, 5, none⟩ = some (.int .i64 p5) ∧ W2.cell? ⟨Y, 6, none⟩ = some (.int .i64 p6) ∧ W2.cell? ⟨Y, 7, none⟩ = some (.string p7) ∧ W2.cell? ⟨Y, 8, none⟩ = some (.string p8) ∧ W2.cell? ⟨Y, 9, none⟩ = some (.int .i64 p9) ∧ W2.cell? ⟨Y, 10, none⟩ = some (.int .i64 p10) ∧ W2.cell? ⟨Y, 11, none⟩ = some (.int .i64 p11) from ⟨HX.out.1, HX.out.2.1, HO.out⟩)
      go_wp2_with fail
      go_cut [9, 10] from 48 to 55 (fun s9 s10 wx => ApCut W2 (t, (0 : Int)) s9 s10 wx)
      case first =>
        as_aux_lemma =>
        go_region_held3 (fun W => W.cell? ⟨X, 0, none⟩ = some (.slice A5 U.roots.length k5) ∧ W.cell? ⟨X, 1, none⟩ = some (.slice B5 U.brs.length l5) ∧ W.cell? ⟨Y, 0, none⟩ = some (.int .i64 p0) ∧ W.cell? ⟨Y, 1, none⟩ = some (.int .i64 p1) ∧ W.cell? ⟨Y, 2, none⟩ = some (.int .i64 p2) ∧ W.cell? ⟨Y, 3, none⟩ = some (.int .i64 p3) ∧ W.cell? ⟨Y, 4, none⟩ = some (.int .i64 p4) ∧ W.cell? ⟨Y, 5, none⟩ = some (.int .i64 p5) ∧ W.cell? ⟨Y, 6, none⟩ = some (.int .i64 p6) ∧ W.cell? ⟨Y, 7, none⟩ = some (.string p7) ∧ W.cell? ⟨Y, 8, none⟩ = some (.string p8) ∧ W.cell? ⟨Y, 9, none⟩ = some (.int .i64 p9) ∧ W.cell? ⟨Y, 10, none⟩ = some (.int .i64 p10) ∧ W.cell? ⟨Y, 11, none⟩ = some (.int .i64 p11)) (exact xy_grow HXY.out (by repeat (first | exact Grew.refl _ | exact GB2.out | exact GB1.out | refine Grew.drew ?_ | refine Grew.alloc ?_ _ | refine Grew.setCell ?_ (by first | exact Nat.le_refl _ | exact GB1.out.size | exact GB2.out.size | simp) _))) (first | (go_at_call 19; refine (KC2.out _ _ _ _ (HX.out.2.2.mono (by repeat (first | exact Grew.refl _ | refine Grew.drew ?_ | refine Grew.alloc ?_ _))) HRU.out).mono ?_; rintro e w1 ⟨rv1, bv1, rfl, ht1, g1⟩; have GB1 := Lib.hid (show Grew W2 w1 from Grew.trans (by repeat (first | exact Grew.refl _ | refine Grew.drew ?_ | refine Grew.alloc ?_ _)) g1); obtain ⟨A1, k1, rfl, -⟩ := SlI.open_ ht1.1; obtain ⟨A2, k2, rfl, -⟩ := SlBr.open_ ht1.2; have HT1 := Lib.hid ht1; (first | have Na1 := Lib.hid (show Grew (W2.alloc (.cells [.slice none 0 0, .slice none 0 0].toArray 35)) w1 from Grew.trans (Grew.refl _).drew g1) | have Na1 := Lib.hid (show Grew (W2.alloc (.cells [.slice none 0 0, .slice none 0 0].toArray 35)) w1 from Grew.trans (Grew.refl _) g1) | skip); clear ht1 g1) | (go_at_call 18; refine (KQ.out _ _ _ (HGU.out.trans (by repeat (first | exact Grew.refl _ | exact GB1.out | refine Grew.drew ?_ | refine Grew.alloc ?_ _))) (HT1.out.mono (by repeat (first | exact Grew.refl _ | refine Grew.drew ?_ | refine Grew.alloc ?_ _)))).mono ?_; rintro e w2 ⟨rv2, bv2, rfl, ht2, g2⟩; have GX := Lib.hid (show Grew w1 w2 from Grew.trans (by repeat (first | exact Grew.refl _ | refine Grew.drew ?_ | refine Grew.alloc ?_ _)) g2); have GB2 := Lib.hid (GB1.out.trans GX.out); obtain ⟨B1, l1, rfl, -⟩ := SlI.open_ ht2.1; obtain ⟨B2, l2, rfl, -⟩ := SlBr.open_ ht2.2; have HT2 := Lib.hid ht2; (try have PA := heap_grew (Na1.out.trans GX.out) (heap_allocE (a := W2) (p := (.cells [.slice none 0 0, .slice none 0 0].toArray 35)) rfl)); (first | have PB := heap_grew (show Grew (w1.alloc (.cells [.slice none 0 0, .slice none 0 0].toArray 35)) w2 from Grew.trans (Grew.refl _).drew g2) (heap_allocE (a := w1) (p := (.cells [.slice none 0 0, .slice none 0 0].toArray 35)) rfl) | have PB := heap_grew (show Grew (w1.alloc (.cells [.slice none 0 0, .slice none 0 0].toArray 35)) w2 from Grew.trans (Grew.refl _) g2) (heap_allocE (a := w1) (p := (.cells [.slice none 0 0, .slice none 0 0].toArray 35)) rfl) | skip); (try have pa0 := (zt_facts PA).1); (try have pa1 := (zt_facts PA).2.1); (try have pa2 := (zt_facts PA).2.2.1); (try have pa3 := (zt_facts PA).2.2.2); (try have pb0 := (zt_facts PB).1); (try have pb1 := (zt_facts PB).2.1); (try have pb2 := (zt_facts PB).2.2.1); (try have pb3 := (zt_facts PB).2.2.2); clear ht2 g2))
        all_goals go_wp2_with fail
        all_goals go_meet
        all_goals first | exact ap_meet2 GB2.out HT2.out | exact ap_meet PA (Nat.le_refl _) GB2.out HT2.out | exact ap_meet PB GB1.out.size GB2.out HT2.out
      case rest =>
        as_aux_lemma =>
          obtain ⟨Z, rvB, bvB, rfl, rfl, z0, z1, hTB, hgB⟩ := hcut
          replace HSU := Lib.hid (law_grow HSU.out hgB)
          replace HX := Lib.hid (show _ ∧ _ ∧ _ from ⟨keep_cell hgB HX.out.1, keep_cell hgB HX.out.2.1, HX.out.2.2.mono hgB⟩)
          replace HGU := Lib.hid (HGU.out.trans hgB)
          have HZ := Lib.hid (show wc.cell? ⟨Z, 0, none⟩ = some rvB ∧ wc.cell? ⟨Z, 1, none⟩ = some bvB ∧ TrOk wc rvB bvB t from ⟨z0, z1, hTB⟩)
          obtain ⟨A8, k8, rfl, -⟩ := SlI.open_ hTB.1
          obtain ⟨B8, l8, rfl, -⟩ := SlBr.open_ hTB.2
          clear z0 z1 hTB hgB HO HXY KQ
          go_wp2_with fail
          have HL8 := Lib.hid (show (wc.cell? ⟨w.heap.size, 0, none⟩ = some _ ∧ wc.cell? ⟨w.heap.size, 1, none⟩ = some _) ∧ wc.cell? ⟨X, 0, none⟩ = some _ ∧ wc.cell? ⟨X, 1, none⟩ = some _ from ⟨⟨HSU.out.1, HSU.out.2.1⟩, HX.out.1, HX.out.2.1⟩)
          go_region_held3 (fun W => (W.cell? ⟨w.heap.size, 0, none⟩ = some (.slice Ar t.roots.length cr) ∧ W.cell? ⟨w.heap.size, 1, none⟩ = some (.slice Ab t.brs.length cb)) ∧ W.cell? ⟨X, 0, none⟩ = some (.slice A5 U.roots.length k5) ∧ W.cell? ⟨X, 1, none⟩ = some (.slice B5 U.brs.length l5)) (exact four_grow HL8.out (by repeat (first | exact Grew.refl _ | exact G13.out | exact G12.out | exact G11.out | refine Grew.drew ?_ | refine Grew.alloc ?_ _))) (first | (go_at_call 19; have hxx := G11; clear hxx; refine (KC2.out _ _ _ _ (HX.out.2.2.mono (by repeat (first | exact Grew.refl _ | exact G11.out | refine Grew.drew ?_ | refine Grew.alloc ?_ _))) HRU.out).mono ?_; rintro e w12 ⟨rv12, bv12, rfl, ht12, g12⟩; have G1112 := Lib.hid (show Grew w11 w12 from Grew.trans (by repeat (first | exact Grew.refl _ | refine Grew.drew ?_ | refine Grew.alloc ?_ _)) g12); have G12 := Lib.hid (G11.out.trans G1112.out); obtain ⟨Ax12, kx12, rfl, -⟩ := SlI.open_ ht12.1; obtain ⟨Bx12, lx12, rfl, -⟩ := SlBr.open_ ht12.2; have HT12 := Lib.hid ht12; clear ht12 g12) | (go_at_call 19; refine (KC.out _ (HGU.out.trans (by repeat (first | exact Grew.refl _ | refine Grew.drew ?_ | refine Grew.alloc ?_ _))) HF.out).mono ?_; rintro e w11 ⟨rv11, bv11, rfl, ht11, g11⟩; have G11 := Lib.hid (show Grew wc w11 from Grew.trans (by repeat (first | exact Grew.refl _ | refine Grew.drew ?_ | refine Grew.alloc ?_ _)) g11); obtain ⟨Ax11, kx11, rfl, -⟩ := SlI.open_ ht11.1; obtain ⟨Bx11, lx11, rfl, -⟩ := SlBr.open_ ht11.2; have HT11 := Lib.hid ht11; clear ht11 g11) | (go_at_call 25; refine (KCH.out t U _ _ _ _ _ (HGU.out.trans (by repeat (first | exact Grew.refl _ | exact G12.out | refine Grew.drew ?_ | refine Grew.alloc ?_ _))) (HT11.out.mono (by repeat (first | exact Grew.refl _ | exact G1112.out | refine Grew.drew ?_ | refine Grew.alloc ?_ _))) (HT12.out.mono (by repeat (first | exact Grew.refl _ | refine Grew.drew ?_ | refine Grew.alloc ?_ _))) HRT.out HRU.out).mono ?_; rintro e w13 ⟨v13, lc13, rfl, hv13, g13, hc13⟩; have G13 := Lib.hid (show Grew wc w13 from Grew.trans (by repeat (first | exact Grew.refl _ | exact G12.out | refine Grew.drew ?_ | refine Grew.alloc ?_ _)) g13); have HV13 := Lib.hid hv13; have HC13 := Lib.hid hc13; clear hv13 g13 hc13))
          clear G11 G1112 G12 HT11 HT12
          replace HSU := Lib.hid (law_grow HSU.out G13.out)
          replace HX := Lib.hid (show _ ∧ _ ∧ _ from ⟨keep_cell G13.out HX.out.1, keep_cell G13.out HX.out.2.1, HX.out.2.2.mono G13.out⟩)
          replace HZ := Lib.hid (show _ ∧ _ ∧ _ from ⟨keep_cell G13.out HZ.out.1, keep_cell G13.out HZ.out.2.1, HZ.out.2.2.mono G13.out⟩)
          replace HGU := Lib.hid (HGU.out.trans G13.out)
          clear G13 HL8
          go_wp2_with fail
          have HL9 := Lib.hid (show (w13.cell? ⟨X, 0, none⟩ = some _ ∧ w13.cell? ⟨X, 1, none⟩ = some _) ∧ w13.cell? ⟨Z, 0, none⟩ = some _ ∧ w13.cell? ⟨Z, 1, none⟩ = some _ from ⟨⟨HX.out.1, HX.out.2.1⟩, HZ.out.1, HZ.out.2.1⟩)
          go_region_held3 (fun W => (W.cell? ⟨X, 0, none⟩ = some (.slice A5 U.roots.length k5) ∧ W.cell? ⟨X, 1, none⟩ = some (.slice B5 U.brs.length l5)) ∧ W.cell? ⟨Z, 0, none⟩ = some (.slice A8 t.roots.length k8) ∧ W.cell? ⟨Z, 1, none⟩ = some (.slice B8 t.brs.length l8)) (exact four_grow HL9.out (by repeat (first | exact Grew.refl _ | exact G16.out | exact G15.out | exact G14.out | refine Grew.drew ?_ | refine Grew.alloc ?_ _))) (first | (go_at_call 19; have hxx := G14; clear hxx; refine (KC2.out _ _ _ _ (HZ.out.2.2.mono (by repeat (first | exact Grew.refl _ | exact G14.out | refine Grew.drew ?_ | refine Grew.alloc ?_ _))) HRT.out).mono ?_; rintro e w15 ⟨rv15, bv15, rfl, ht15, g15⟩; have G1415 := Lib.hid (show Grew w14 w15 from Grew.trans (by repeat (first | exact Grew.refl _ | refine Grew.drew ?_ | refine Grew.alloc ?_ _)) g15); have G15 := Lib.hid (G14.out.trans G1415.out); obtain ⟨Ax15, kx15, rfl, -⟩ := SlI.open_ ht15.1; obtain ⟨Bx15, lx15, rfl, -⟩ := SlBr.open_ ht15.2; have HT15 := Lib.hid ht15; clear ht15 g15) | (go_at_call 19; refine (KC2.out _ _ _ _ (HX.out.2.2.mono (by repeat (first | exact Grew.refl _ | refine Grew.drew ?_ | refine Grew.alloc ?_ _))) HRU.out).mono ?_; rintro e w14 ⟨rv14, bv14, rfl, ht14, g14⟩; have G14 := Lib.hid (show Grew w13 w14 from Grew.trans (by repeat (first | exact Grew.refl _ | refine Grew.drew ?_ | refine Grew.alloc ?_ _)) g14); obtain ⟨Ax14, kx14, rfl, -⟩ := SlI.open_ ht14.1; obtain ⟨Bx14, lx14, rfl, -⟩ := SlBr.open_ ht14.2; have HT14 := Lib.hid ht14; clear ht14 g14) | (go_at_call 25; refine (KCH.out U t _ _ _ _ _ (HGU.out.trans (by repeat (first | exact Grew.refl _ | exact G15.out | refine Grew.drew ?_ | refine Grew.alloc ?_ _))) (HT14.out.mono (by repeat (first | exact Grew.refl _ | exact G1415.out | refine Grew.drew ?_ | refine Grew.alloc ?_ _))) (HT15.out.mono (by repeat (first | exact Grew.refl _ | refine Grew.drew ?_ | refine Grew.alloc ?_ _))) HRU.out HRT.out).mono ?_; rintro e w16 ⟨v16, lc16, rfl, hv16, g16, hc16⟩; have G16 := Lib.hid (show Grew w13 w16 from Grew.trans (by repeat (first | exact Grew.refl _ | exact G15.out | refine Grew.drew ?_ | refine Grew.alloc ?_ _)) g16); have HV16 := Lib.hid hv16; have HC16 := Lib.hid hc16; clear hv16 g16 hc16))
          clear G14 G1415 G15 HT14 HT15
          replace HSU := Lib.hid (law_grow HSU.out G16.out)
          replace HX := Lib.hid (show _ ∧ _ ∧ _ from ⟨keep_cell G16.out HX.out.1, keep_cell G16.out HX.out.2.1, HX.out.2.2.mono G16.out⟩)
          replace HZ := Lib.hid (show _ ∧ _ ∧ _ from ⟨keep_cell G16.out HZ.out.1, keep_cell G16.out HZ.out.2.1, HZ.out.2.2.mono G16.out⟩)
          replace HGU := Lib.hid (HGU.out.trans G16.out)
          have HV := Lib.hid (SlI.mono HV13.out G16.out)
          have hcc := chg_unique (chg_symm HC13.out) HC16.out
          have HVV := Lib.hid (hcc ▸ HV16.out)
          clear G16 HL9 hcc HC13 HC16 HV13 HV16 KC KC2 KCH
          obtain ⟨r0, b0, -⟩ := HSU.out
          obtain ⟨z0, z1, hzt⟩ := HZ.out
          have HZT := Lib.hid hzt
          clear hzt HZ HX HSU
          go_wp2_with fail
          refine (same19 t _ _ _ _ _ HZT.out (HTT.out _ HGU.out)).mono ?_
          rintro e w17 ⟨rfl, g17⟩
          have HVA := Lib.hid (SlI.mono HV.out g17)
          have HVB := Lib.hid (SlI.mono HVV.out g17)
          have HG17 := Lib.hid (HGU.out.trans g17)
          clear g17 r0 b0 z0 z1
          dsimp only
          go_wp2_with fail
          refine (sameL _ _ _ _ HVA.out HVB.out).mono ?_
          rintro e w18 ⟨rfl, g18⟩
          have HG18 := Lib.hid (HG17.out.trans g18)
          clear g18
          dsimp only
          go_wp2
          go_ret
          exact ⟨rfl, HG18.out⟩
end Go.Proofs.YtafncfomiolmgaaGreatDoor
