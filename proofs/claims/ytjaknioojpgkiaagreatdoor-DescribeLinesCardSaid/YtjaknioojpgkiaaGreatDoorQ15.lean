/- Lemmas on what the functions of the program and of the library compute: J1. The conditions stand at each. -/
import Derived.Test.YtjaknioojpgkiaaGreatDoorQ11
import Derived.Test.YtjaknioojpgkiaaGreatDoorQ13
import Derived.Test.YtjaknioojpgkiaaGreatDoorQ14
/- The reference's found of layer 28, walked. The condition: the tree is right. -/
namespace Go.Proofs.YtjaknioojpgkiaaGreatDoor
open Go.RowKit

/-- A call that returns a value and whether there is one. -/
def RetV (o : Option Val) (w : World) (e : Ending) (w' : World) : Prop := e = .returned (.tuple #[(o.getD val0).agg, .bool o.isSome]) ∧ Grew w w'
set_option maxHeartbeats 8000000 in
set_option maxRecDepth 100000 in
theorem refFound (t : Tr) (vs : List Val) (u n : Int) (lang : ByteArray) (rv bv vv : Value) (w : World) (hT : RightT t) (hr : SlI w rv t.roots) (hv : SlBr w bv t.brs) (hvv : SlV w vv vs) (hu : u = 0 ∨ ∃ b, brFind t.brs u = some b) :
    Calls Tryz.prog 109 #[.agg #[rv, bv], vv, .int .i64 u, .int .i64 n, .string lang] w (RetV (foundF t.brs vs u n lang) w) := by
  have KG := Lib.hid (fun W x (hW : Grew w W) => refGet_any vs x n lang vv W (hvv.mono hW))
  have KI := Lib.hid (fun W => refInherited_any n W)
  have KF := Lib.hid (fun W x (hW : Grew w W) => refFind19 t.brs x rv bv W (hv.mono hW))
  have HZ := Lib.hid (found_zero hT vs n lang)
  have HST := Lib.hid (fun x b (h : brFind t.brs x = some b) => found_step hT h vs n lang)
  have HWS := Lib.hid (fun x b (h : brFind t.brs x = some b) => wayL_step hT h)
  have HUP : RowKit.Hid (∀ b ∈ t.brs, b.parent = 0 ∨ ∃ p, brFind t.brs b.parent = some p) := by
    have hs := right_sound hT
    intro b hb
    have hp := hs.placed b hb
    unfold BrPlaced at hp
    by_cases h0 : b.parent = 0
    · exact .inl h0
    · rw [if_neg h0] at hp
      obtain ⟨p, hp, -⟩ := hp
      exact .inr ⟨p, hp⟩
  have HU := Lib.hid hu
  obtain ⟨Ar, cr, rfl, -⟩ := hr.open_
  obtain ⟨Ab, cb, rfl, -⟩ := hv.open_
  obtain ⟨Av, cv, rfl, -⟩ := hvv.open_
  generalize hRES : foundF t.brs vs u n lang = RES
  have HRES := Lib.hid hRES
  generalize hinh : (kindOf n).inh = inh at KI HST
  clear hRES hr hv hvv hT hu hinh
  have HB := Lib.hid (show ∀ W, Grew ((w.alloc (.cells [.slice Ar t.roots.length cr, .slice Ab t.brs.length cb].toArray 25)).alloc (.cells [.int .i64 0, .int .i64 0, .string ⟨#[]⟩, .string ⟨#[]⟩].toArray 29)) W → W.heap[w.heap.size]? = some (.cells #[.slice Ar t.roots.length cr, .slice Ab t.brs.length cb] 25 (0, 0)) ∧ W.heap[w.heap.size + 1]? = some (.cells #[.int .i64 0, .int .i64 0, .string ⟨#[]⟩, .string ⟨#[]⟩] 29 (0, 0)) from fun W g => by
    have e1 := heap_newI w (.cells [.slice Ar t.roots.length cr, .slice Ab t.brs.length cb].toArray 25)
    have e2 := heap_newI (w.alloc (.cells [.slice Ar t.roots.length cr, .slice Ab t.brs.length cb].toArray 25)) (.cells [.int .i64 0, .int .i64 0, .string ⟨#[]⟩, .string ⟨#[]⟩].toArray 29)
    rw [World.size_alloc] at e2
    exact ⟨heap_keepI (((Grew.refl _).alloc _).trans g) e1, heap_keepI g e2⟩)
  have GA := Lib.hid (((Grew.refl w).alloc (.cells [.slice Ar t.roots.length cr, .slice Ab t.brs.length cb].toArray 25)).alloc (.cells [.int .i64 0, .int .i64 0, .string ⟨#[]⟩, .string ⟨#[]⟩].toArray 29))
  go_enter Tryz.func109, Tryz.ntmps109
  go_wp2_with fail
  generalize (w.alloc (.cells [.slice Ar t.roots.length cr, .slice Ab t.brs.length cb].toArray 25)).alloc (.cells [.int .i64 0, .int .i64 0, .string ⟨#[]⟩, .string ⟨#[]⟩].toArray 29) = WA at GA HB ⊢
  go_loopg [2] (wayL t.brs u).length (fun gg s2 wr => ∃ z : Int, s2 = .int .i64 z ∧ (wayL t.brs z).length ≤ gg ∧ Aside (z = 0 ∨ ∃ b, brFind t.brs z = some b) ∧ Aside (foundF t.brs vs z n lang = RES) ∧ Aside (Grew WA wr))
  case atStart => exact ⟨u, rfl, Nat.le_refl _, (show Aside _ from HU.out), (show Aside _ from HRES.out), (show Aside _ from Grew.refl _)⟩
  case round =>
    obtain ⟨z, rfl, hgz, Z, R, GW⟩ := hrel
    obtain ⟨x0, x1⟩ := two_cells (HB.out wr GW.out).1
    obtain ⟨⟨q0, q1, q2, q3⟩, z0, z1, z2, z3⟩ := four_cells (HB.out wr GW.out).2
    have HGW := Lib.hid (GA.out.trans GW.out)
    by_cases h0 : z = 0
    · subst h0
      obtain rfl : RES = none := R.out.symm.trans HZ.out
      clear R Z HZ HST HWS HUP HRES HU KG KI KF
      go_wp2_with fail
      obtain ⟨p0, p1, p2, p3⟩ := res_four (v0 := .int .i64 0) (v1 := .int .i64 0) (v2 := .string ⟨#[]⟩) (v3 := .string ⟨#[]⟩) q0 q1 q2 q3
      refine bodyPost_ret (v := .tuple #[.agg #[.int .i64 0, .int .i64 0, .string ⟨#[]⟩, .string ⟨#[]⟩], .bool false]) (by simp [results, Tryz.results109, go_sem, p0, p1, p2, p3]) rfl ?_
      exact ⟨rfl, grew_four HGW.out (by omega) _ _ _ _⟩
    · have hzb : (z != 0) = true := by simpa using h0
      obtain ⟨b, hb⟩ := Z.out.resolve_left h0
      have hstep := HST.out z b hb
      rw [R.out] at hstep
      have hway := HWS.out z b hb
      rw [hway] at hgz
      have hin := find_in hb
      have HBP := Lib.hid (HUP.out b hin.1)
      have HPL := Lib.hid (show (wayL t.brs b.parent).length + 1 ≤ _ from by simpa using hgz)
      have kf := fun W (hW : Grew w W) => KF.out W z hW
      unfold TFindEnd at kf
      rw [hb] at kf
      dsimp only [Option.getD_some, Option.isSome_some] at kf
      have KFz := Lib.hid kf
      have HSTEP := Lib.hid hstep
      clear kf hstep hway hgz hb hin Z R h0
      go_wp2_with fail
      refine (KG.out _ z HGW.out).mono ?_
      rintro e w1 ⟨rfl, g1⟩
      have G1 := Lib.hid (GW.out.trans g1)
      have HG1 := Lib.hid (GA.out.trans G1.out)
      clear x0 x1 q0 q1 q2 q3 z0 z1 z2 z3 g1
      obtain ⟨x0, x1⟩ := two_cells (HB.out w1 G1.out).1
      obtain ⟨⟨q0, q1, q2, q3⟩, z0, z1, z2, z3⟩ := four_cells (HB.out w1 G1.out).2
      have hs := HSTEP.out
      unfold ownV at hs
      cases hg : getF vs z n lang with
      | some s =>
        rw [hg] at hs
        obtain rfl : RES = some ⟨z, n, lang, s⟩ := hs
        unfold optS
        dsimp only [Option.getD_some, Option.isSome_some]
        clear HSTEP HBP HPL KFz hg HRES HST HUP HWS HZ HU KF KG KI
        go_wp2_with fail
        obtain ⟨p0, p1, p2, p3⟩ := res_four (v0 := .int .i64 z) (v1 := .int .i64 n) (v2 := .string lang) (v3 := .string s) q0 q1 q2 q3
        refine bodyPost_ret (v := .tuple #[.agg #[.int .i64 z, .int .i64 n, .string lang, .string s], .bool true]) (by simp [results, Tryz.results109, go_sem, p0, p1, p2, p3]) rfl ?_
        exact ⟨rfl, grew_four HG1.out (by omega) _ _ _ _⟩
      | none =>
        rw [hg] at hs
        dsimp only [Option.map_none] at hs
        dsimp only [Option.isSome_none]
        have HS := Lib.hid hs
        clear hs hg HSTEP
        go_wp2_with fail
        refine (KI.out _).mono ?_
        rintro e w2 ⟨rfl, rfl⟩
        dsimp only
        cases inh with
        | false =>
          obtain rfl : RES = none := by have := HS.out; simpa using this
          clear HS HBP HPL KFz HRES HST HUP HWS HZ HU KF KG KI
          go_wp2_with fail
          obtain ⟨p0, p1, p2, p3⟩ := res_four (v0 := .int .i64 0) (v1 := .int .i64 0) (v2 := .string ⟨#[]⟩) (v3 := .string ⟨#[]⟩) q0 q1 q2 q3
          refine bodyPost_ret (v := .tuple #[.agg #[.int .i64 0, .int .i64 0, .string ⟨#[]⟩, .string ⟨#[]⟩], .bool false]) (by simp [results, Tryz.results109, go_sem, p0, p1, p2, p3]) rfl ?_
          exact ⟨rfl, grew_four HG1.out (by omega) _ _ _ _⟩
        | true =>
          have HS2 := Lib.hid (show foundF t.brs vs b.parent n lang = RES from by have := HS.out; simpa using this.symm)
          clear HS
          go_wp2_with fail
          refine (KFz.out _ HG1.out).mono ?_
          rintro e w3 ⟨rfl, g3⟩
          have G3 := Lib.hid (G1.out.trans g3)
          clear g3 x0 x1 q0 q1 q2 q3 z0 z1 z2 z3
          obtain ⟨bi, bp, bl, bt, bm, bk⟩ := b
          dsimp only at HBP HPL HS2 ⊢
          have hpl := HPL.out
          go_wp2
          go_roundg ((wayL t.brs bp).length)
          case measure => omega
          case rel => exact ⟨bp, rfl, Nat.le_refl _, (show Aside _ from HBP.out), (show Aside _ from HS2.out), (show Aside _ from G3.out.alloc _)⟩
end Go.Proofs.YtjaknioojpgkiaaGreatDoor
