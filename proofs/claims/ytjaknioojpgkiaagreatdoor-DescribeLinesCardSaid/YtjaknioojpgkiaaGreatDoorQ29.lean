/- Lemmas on what the functions of the program and of the library compute: J5. The conditions stand at each. -/
import Derived.Test.YtjaknioojpgkiaaGreatDoorQ21
import Derived.Test.YtjaknioojpgkiaaGreatDoorQ28
import Derived.Test.YtjaknioojpgkiaaGreatDoorQ18
/- The reference's effective of layer 28, walked. The condition: the tree is right. -/
namespace Go.Proofs.YtjaknioojpgkiaaGreatDoor
open Go.RowKit

/-- Behind `v, ok := found(..)`: a value lies in a box of its own. -/
def ValCut (W0 : World) (xu xe : Int) (xl xt : ByteArray) (s : Bool) (s1 s2 : Value) (wx : World) : Prop := ∃ U, s1 = .pointer (some ⟨U, 0, none⟩) ∧ s2 = .bool s ∧ Aside (wx.cell? ⟨U, 0, none⟩ = some (.int .i64 xu)) ∧ Aside (wx.cell? ⟨U, 1, none⟩ = some (.int .i64 xe)) ∧ Aside (wx.cell? ⟨U, 2, none⟩ = some (.string xl)) ∧ Aside (wx.cell? ⟨U, 3, none⟩ = some (.string xt)) ∧ Aside (Grew W0 wx)
theorem val_meet {W0 W : World} {P : Nat} {xu xe : Int} {xl xt : ByteArray} {s : Bool} {x0 x1 x2 x3 : Value} (h0 : W.cell? ⟨P, 0, none⟩ = some x0) (h1 : W.cell? ⟨P, 1, none⟩ = some x1) (h2 : W.cell? ⟨P, 2, none⟩ = some x2) (h3 : W.cell? ⟨P, 3, none⟩ = some x3) (hP : W0.heap.size ≤ P) (g : Grew W0 W) :
    ValCut W0 xu xe xl xt s (.pointer (some ⟨P, 0, none⟩)) (.bool s) ((((W.setCell ⟨P, 0, none⟩ (.int .i64 xu)).setCell ⟨P, 1, none⟩ (.int .i64 xe)).setCell ⟨P, 2, none⟩ (.string xl)).setCell ⟨P, 3, none⟩ (.string xt)) := by
  obtain ⟨p0, p1, p2, p3⟩ := res_four (v0 := .int .i64 xu) (v1 := .int .i64 xe) (v2 := .string xl) (v3 := .string xt) h0 h1 h2 h3
  exact ⟨P, rfl, rfl, (show Aside _ from p0), (show Aside _ from p1), (show Aside _ from p2), (show Aside _ from p3), (show Aside _ from grew_four g hP _ _ _ _)⟩
theorem val_meet2 {W0 W : World} {xu xe : Int} {xl xt : ByteArray} {s : Bool} (g : Grew W0 W) :
    ValCut W0 xu xe xl xt s (.pointer (some ⟨W.heap.size, 0, none⟩)) (.bool s) (W.alloc (.cells #[.int .i64 xu, .int .i64 xe, .string xl, .string xt] 29)) := by
  obtain ⟨⟨p0, p1, p2, p3⟩, -⟩ := four_cells (heap_newI W (.cells #[.int .i64 xu, .int .i64 xe, .string xl, .string xt] 29))
  exact ⟨_, rfl, rfl, (show Aside _ from p0), (show Aside _ from p1), (show Aside _ from p2), (show Aside _ from p3), (show Aside _ from g.alloc _)⟩
set_option maxHeartbeats 8000000 in
set_option maxRecDepth 100000 in
theorem refEff (t : Tr) (ls : List ByteArray) (vs : List Val) (u n : Int) (wt : ByteArray) (rv bv lv vv : Value) (w : World) (hT : RightT t) (hr : SlI w rv t.roots) (hv : SlBr w bv t.brs) (hl : SlS w lv ls) (hvv : SlV w vv vs) (hu : u = 0 ∨ ∃ b, brFind t.brs u = some b) :
    Calls Tryz.prog 126 #[.agg #[rv, bv], lv, vv, .int .i64 u, .int .i64 n, .string wt] w (RetV (effF t.brs ls vs u n wt) w) := by
  have KO := Lib.hid (fun W (hW : Grew w W) => refOrder_all ls wt lv W (hl.mono hW))
  have KF := Lib.hid (fun lg W (hW : Grew w W) => refFound t vs u n lg rv bv vv W hT (hr.mono hW) (hv.mono hW) (hvv.mono hW) hu)
  generalize hRES : effF t.brs ls vs u n wt = RES
  unfold effF at hRES
  generalize orderF ls wt = OL at KO hRES
  obtain ⟨L, oe⟩ := OL
  dsimp only at KO hRES
  have HRES := Lib.hid hRES
  obtain ⟨Ar, cr, rfl, -⟩ := hr.open_
  obtain ⟨Ab, cb, rfl, -⟩ := hv.open_
  clear hl hRES hr hv hvv hT hu
  have HB := Lib.hid (show ∀ W, Grew ((w.alloc (.cells [.slice Ar t.roots.length cr, .slice Ab t.brs.length cb].toArray 25)).alloc (.cells [.int .i64 0, .int .i64 0, .string ⟨#[]⟩, .string ⟨#[]⟩].toArray 29)) W → W.heap[w.heap.size]? = some (.cells #[.slice Ar t.roots.length cr, .slice Ab t.brs.length cb] 25 (0, 0)) ∧ W.heap[w.heap.size + 1]? = some (.cells #[.int .i64 0, .int .i64 0, .string ⟨#[]⟩, .string ⟨#[]⟩] 29 (0, 0)) from fun W g => by
    have e1 := heap_newI w (.cells [.slice Ar t.roots.length cr, .slice Ab t.brs.length cb].toArray 25)
    have e2 := heap_newI (w.alloc (.cells [.slice Ar t.roots.length cr, .slice Ab t.brs.length cb].toArray 25)) (.cells [.int .i64 0, .int .i64 0, .string ⟨#[]⟩, .string ⟨#[]⟩].toArray 29)
    rw [World.size_alloc] at e2
    exact ⟨heap_keepI (((Grew.refl _).alloc _).trans g) e1, heap_keepI g e2⟩)
  have GA := Lib.hid (((Grew.refl w).alloc (.cells [.slice Ar t.roots.length cr, .slice Ab t.brs.length cb].toArray 25)).alloc (.cells [.int .i64 0, .int .i64 0, .string ⟨#[]⟩, .string ⟨#[]⟩].toArray 29))
  go_enter Tryz.func126, Tryz.ntmps126
  go_wp2_with fail
  generalize (w.alloc (.cells [.slice Ar t.roots.length cr, .slice Ab t.brs.length cb].toArray 25)).alloc (.cells [.int .i64 0, .int .i64 0, .string ⟨#[]⟩, .string ⟨#[]⟩].toArray 29) = WA at GA HB ⊢
  refine (KO.out _ GA.out).mono ?_
  rintro e w1 ⟨v1, rfl, hs1, g1⟩
  obtain ⟨A, c, rfl, hlc, hc, hr⟩ := hs1.open_
  unfold maxLen at hc
  have HR := Lib.hid hr
  have G1 := Lib.hid g1
  clear hs1 g1 hr KO
  dsimp only
  go_wp2_with fail
  go_loopg [16] L.length (fun gg s16 wr => ∃ k : Nat, k ≤ L.length ∧ L.length - k ≤ gg ∧ s16 = .int .i64 k ∧ Aside ((L.drop k).findSome? (fun lg => foundF t.brs vs u n lg) = RES) ∧ Aside (Grew w1 wr))
  case atStart => exact ⟨0, by omega, by omega, rfl, (show Aside _ from HRES.out), (show Aside _ from Grew.refl _)⟩
  case round =>
    obtain ⟨k, hk, hgk, rfl, R, GW⟩ := hrel
    have G := Lib.hid (G1.out.trans GW.out)
    have HG := Lib.hid (GA.out.trans G.out)
    by_cases hlt : k < L.length
    · have hltz : (k : Int) < (L.length : Int) := by omega
      have h0z : (0 : Int) ≤ (k : Int) := by omega
      obtain ⟨x0, x1⟩ := two_cells (HB.out wr G.out).1
      obtain ⟨bb, off, rfl, hb, hcell⟩ := HR.out (by omega)
      have c0 := hcell wr GW.out k hlt
      have hR := R.out
      rw [List.drop_eq_getElem_cons hlt, List.findSome?_cons] at hR
      generalize L[k] = y at c0 hR
      have kf := fun W (hW : Grew w W) => KF.out y W hW
      generalize foundF t.brs vs u n y = o at kf hR
      have HRR := Lib.hid hR
      clear hcell R hR
      unfold RetV at kf
      generalize hos : o.isSome = s at kf
      generalize hox : o.getD val0 = x at kf
      have HO := Lib.hid (And.intro hos hox)
      clear hos hox
      obtain ⟨xu, xe, xl, xt⟩ := x
      unfold Val.agg at kf
      dsimp only at kf
      have KFY := Lib.hid kf
      clear kf
      go_wp2
      go_cut [17, 18] from 25 to 43 (fun s17 s18 wx => ValCut wr xu xe xl xt s s17 s18 wx)
      case first =>
        as_aux_lemma =>
          go_region_held3 (fun W => W.cell? ⟨w.heap.size, 0, none⟩ = some (.slice Ar t.roots.length cr) ∧ W.cell? ⟨w.heap.size, 1, none⟩ = some (.slice Ab t.brs.length cb) ∧ W.cell? ⟨bb, off + k, none⟩ = some (.string y) ∧ Grew wr W) (refine heldKid wr _ _ _ _ x0 x1 c0 (by repeat (with_reducible first | exact Grew.refl wr | exact GQ.out | refine Grew.drew ?_ | refine Grew.alloc ?_ _ | refine Grew.setCell ?_ (by first | exact Nat.le_refl _ | exact GQ.out.size | simp) _))) ((go_at_call 109; refine (KFY.out _ (HG.out.trans (by repeat (with_reducible first | exact Grew.refl wr | refine Grew.drew ?_ | refine Grew.alloc ?_ _)))).mono ?_; rintro e wq ⟨rfl, gq⟩; have GQ := Lib.hid (show Grew wr wq from Grew.trans (by repeat (with_reducible first | exact Grew.refl wr | refine Grew.drew ?_ | refine Grew.alloc ?_ _)) gq); (try (have hdr : Grew (wr.alloc (.cells [.int .i64 0, .int .i64 0, .string ⟨#[]⟩, .string ⟨#[]⟩].toArray 29)).drew wq := (by with_reducible exact gq); have qq := four_cells (heap_keepI (Grew.trans (Grew.refl _).drew hdr) (heap_newI wr (.cells [.int .i64 0, .int .i64 0, .string ⟨#[]⟩, .string ⟨#[]⟩].toArray 29))); obtain ⟨⟨q0, q1, q2, q3⟩, z0, z1, z2, z3⟩ := qq)); clear gq))
          all_goals go_wp2_with fail
          all_goals go_meet
          all_goals with_reducible first | exact val_meet2 GQ.out | exact val_meet q0 q1 q2 q3 (Nat.le_refl _) GQ.out
      case rest =>
        as_aux_lemma =>
          obtain ⟨U, rfl, rfl, u0, u1, u2, u3, GC⟩ := hcut
          have u0 := u0.out
          have u1 := u1.out
          have u2 := u2.out
          have u3 := u3.out
          have G2 := Lib.hid (GW.out.trans GC.out)
          have GB := Lib.hid (G1.out.trans G2.out)
          have HG2 := Lib.hid (GA.out.trans GB.out)
          clear x0 x1 c0 KFY
          cases s with
          | true =>
            obtain ⟨⟨q0, q1, q2, q3⟩, z0, z1, z2, z3⟩ := four_cells (HB.out _ GB.out).2
            obtain ⟨ho, hx⟩ := HO.out
            cases o with
            | none => cases ho
            | some x =>
              obtain rfl : x = ⟨xu, xe, xl, xt⟩ := hx
              obtain rfl : RES = some ⟨xu, xe, xl, xt⟩ := HRR.out.symm
              clear HRR HRES HO ho
              go_wp2_with fail
              obtain ⟨p0, p1, p2, p3⟩ := res_four (v0 := .int .i64 xu) (v1 := .int .i64 xe) (v2 := .string xl) (v3 := .string xt) q0 q1 q2 q3
              refine bodyPost_ret (v := .tuple #[.agg #[.int .i64 xu, .int .i64 xe, .string xl, .string xt], .bool true]) (by simp [results, Tryz.results126, go_sem, p0, p1, p2, p3]) rfl ?_
              exact ⟨rfl, grew_four HG2.out (by omega) _ _ _ _⟩
          | false =>
            obtain ⟨ho, -⟩ := HO.out
            cases o with
            | some x => cases ho
            | none =>
              have HNX := Lib.hid (show (L.drop (k + 1)).findSome? (fun lg => foundF t.brs vs u n lg) = RES from HRR.out)
              clear HRR HO ho u0 u1 u2 u3
              go_wp2
              go_roundg (L.length - (k + 1))
              case measure => omega
              case rel => exact ⟨k + 1, by omega, by omega, by go_num, (show Aside _ from HNX.out), (show Aside _ from G2.out)⟩
    · have hltz : ¬ (k : Int) < (L.length : Int) := by omega
      obtain rfl : k = L.length := by omega
      obtain rfl : RES = none := by have := R.out; rw [List.drop_length] at this; exact this.symm
      clear R HRES
      obtain ⟨⟨q0, q1, q2, q3⟩, z0, z1, z2, z3⟩ := four_cells (HB.out wr G.out).2
      go_wp2_with fail
      obtain ⟨p0, p1, p2, p3⟩ := res_four (v0 := .int .i64 0) (v1 := .int .i64 0) (v2 := .string ⟨#[]⟩) (v3 := .string ⟨#[]⟩) q0 q1 q2 q3
      refine bodyPost_ret (v := .tuple #[.agg #[.int .i64 0, .int .i64 0, .string ⟨#[]⟩, .string ⟨#[]⟩], .bool false]) (by simp [results, Tryz.results126, go_sem, p0, p1, p2, p3]) rfl ?_
      exact ⟨rfl, grew_four HG.out (by omega) _ _ _ _⟩
end Go.Proofs.YtjaknioojpgkiaaGreatDoor
