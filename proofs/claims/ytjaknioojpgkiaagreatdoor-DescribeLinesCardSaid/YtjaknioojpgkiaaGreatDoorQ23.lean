/- Lemmas on what the functions of the program and of the library compute: Up1. The conditions stand at each. -/
import Derived.Sort.LoopGhostIn
import Derived.Test.YtjaknioojpgkiaaGreatDoorQ22
/- inherit.upwards and the closure that it returns, walked: it hands on a unit and all above it. The conditions: the tree is right; the rounds write no block of cells that was there. -/
namespace Go.Proofs.YtjaknioojpgkiaaGreatDoor
open Go.RowKit Go.Shelf

attribute [local go_sem] Oper.semAt_some

theorem iUpwards (rv bv lv vv : Value) (u : Int) (w : World) : Calls Tryz.prog 134 #[.agg #[rv, bv, lv, vv], .int .i64 u] w fun e w' => e = .returned (.func (.func 193) #[] #[.pointer (some ⟨w.heap.size + 1, 0, none⟩), .pointer (some ⟨w.heap.size, 0, none⟩)]) ∧ (w.alloc (.cells #[rv, bv, lv, vv] 114)).alloc (.cells #[.int .i64 u] 3) = w' := by
  go_enter Tryz.func134, Tryz.ntmps134
  go_wp2
  go_ret
  exact ⟨rfl, rfl⟩
theorem up_parent {t : Tr} (hT : RightT t) : ∀ b ∈ t.brs, b.parent = 0 ∨ ∃ p, brFind t.brs b.parent = some p := by
  have hs := right_sound hT
  intro b hb
  have hp := hs.placed b hb
  unfold BrPlaced at hp
  by_cases h0 : b.parent = 0
  · exact .inl h0
  · rw [if_neg h0] at hp
    obtain ⟨p, hp, -⟩ := hp
    exact .inr ⟨p, hp⟩
theorem KpN.boxed {n₀ : Nat} {W W' : World} (h : KpN n₀ W W') {B : Nat} {t : TypeId} {v : Value} (k : Boxed W B t v) : Boxed W' B t v := h.cells _ _ k rfl
set_option maxHeartbeats 4000000 in
set_option maxRecDepth 100000 in
theorem iUp1 (t : Tr) (rv bv lv vv : Value) (w0 : World) (hT : RightT t) (hv : SlBr w0 bv t.brs) (u : Int) (hu : u = 0 ∨ ∃ b, brFind t.brs u = some b) (X Sb lp N : Nat) (J Jx : List Int → World → Prop) (W : World) (hG : Grew w0 W) (hXn : w0.heap.size ≤ X) (hne : Sb ≠ X)
    (hJ : ∀ s A B, J s A → A.grownBy B (some X) → J s B)
    (hY : ∀ m pre x W1, J pre W1 → pre.length < N → YieldAt Fence.wide m Tryz.prog lp #[.int .i64 x] W1 fun e W' => (e = .returned (.bool true) ∧ J (pre ++ [x]) W' ∧ KpN w0.heap.size W1 W') ∨ (e = .returned (.bool false) ∧ Jx (pre ++ [x]) W'))
    (hN : (wayL t.brs u).length ≤ N) (h0 : J [] W) (hSb : W.heap[Sb]? = some (.cells #[rv, bv, lv, vv] 114 (0, 0))) (hXb : Boxed W X 3 (.int .i64 u)) :
    Calls Tryz.prog 193 #[.func (.yield lp) #[] #[], .pointer (some ⟨X, 0, none⟩), .pointer (some ⟨Sb, 0, none⟩)] W fun e W' => (∃ v, e = .returned v) ∧ (J (wayL t.brs u) W' ∨ ∃ pre, pre <+: wayL t.brs u ∧ Jx pre W') := by
  have KF := Lib.hid (fun W x (hW : Grew w0 W) => tFind t.brs x rv bv W (hv.mono hW))
  have HZ := Lib.hid (wayL_zero hT)
  have HWS := Lib.hid (fun x b (h : brFind t.brs x = some b) => wayL_step hT h)
  have HUP := Lib.hid (up_parent hT)
  have HJ := Lib.hid hJ
  have HY := Lib.hid hY
  have HU := Lib.hid hu
  have HNE := Lib.hid hne
  have HXN := Lib.hid hXn
  have HG := Lib.hid hG
  have HSB := Lib.hid hSb
  have HXB := Lib.hid hXb
  have H0 := Lib.hid h0
  generalize hL : wayL t.brs u = L at hN ⊢
  have HL := Lib.hid hL
  have HN := Lib.hid hN
  clear hT hv hu hG hXn hne hJ hY hN h0 hSb hXb hL
  refine (callsIn_wide (n := 9)).1 ?_
  refine callsIn_of_wp Tryz.func193 rfl trivial ?_ rfl
  simp only [Tryz.ntmps193, List.size_toArray, List.length_cons, List.length_nil, Nat.reduceAdd, Nat.reduceSub, Array.replicate_succ, Array.replicate_zero, List.push_toArray, List.append_toArray, List.nil_append, List.cons_append]
  gi_wp2
  gi_loopg [] L.length (fun gg wr => ∃ (z : Int) (pre : List Int), (wayL t.brs z).length ≤ gg ∧ Aside (pre ++ wayL t.brs z = L) ∧ Aside (z = 0 ∨ ∃ b, brFind t.brs z = some b) ∧ Aside (Boxed wr X 3 (.int .i64 z)) ∧ Aside (wr.heap[Sb]? = some (.cells #[rv, bv, lv, vv] 114 (0, 0))) ∧ Aside (Grew w0 wr) ∧ Aside (J pre wr))
  case atStart => exact ⟨u, [], by rw [HL.out]; exact Nat.le_refl _, (show Aside _ from HL.out), (show Aside _ from HU.out), (show Aside _ from HXB.out), (show Aside _ from HSB.out), (show Aside _ from HG.out), (show Aside _ from H0.out)⟩
  case round =>
    obtain ⟨z, pre, hgz, PL, Z, XB, SB, GW, JW⟩ := hrel
    have hc := XB.out.cell
    by_cases hz : z = 0
    · subst hz
      gi_wp2_with fail
      refine ⟨fun f h => (by cases h), ?_⟩
      gi_wp2
      go_end0
      refine ⟨⟨_, rfl⟩, .inl ?_⟩
      have := PL.out
      rw [HZ.out, List.append_nil] at this
      rw [← this]
      exact JW.out
    · have hzb : (z != 0) = true := by simpa using hz
      obtain ⟨b, hb⟩ := Z.out.resolve_left hz
      have hway := HWS.out z b hb
      have hpl := PL.out
      rw [hway] at hgz hpl
      have hlt : pre.length < N := by
        have h1 := HN.out
        have h2 := congrArg List.length hpl
        simp only [List.length_append, List.length_cons] at h2
        omega
      have hin := find_in hb
      have HBP := Lib.hid (HUP.out b hin.1)
      have HPL := Lib.hid (show (pre ++ [z]) ++ wayL t.brs b.parent = L by rw [List.append_assoc]; exact hpl)
      have HGZ := Lib.hid (show (wayL t.brs b.parent).length + 1 ≤ _ from by simpa using hgz)
      have kf := fun W (hW : Grew w0 W) => KF.out W z hW
      unfold TFindEnd at kf
      rw [hb] at kf
      dsimp only [Option.getD_some, Option.isSome_some] at kf
      have KFz := Lib.hid kf
      obtain ⟨fn, tmps, assign, body, hy, hR⟩ := HY.out 8 pre z wr JW.out hlt
      clear kf hway hpl hlt hin hb Z PL hgz hz
      gi_wp2_with fail
      refine hR.mono ?_
      rintro e W2 (⟨rfl, hj2, hk2⟩ | ⟨rfl, hjx⟩)
      · have XB2 := Lib.hid (hk2.boxed XB.out)
        have SB2 := Lib.hid (hk2.cells _ _ SB.out rfl)
        have HG2 := Lib.hid (show Grew w0 W2 from Below.trans GW.out hk2.below)
        have HJ2 := Lib.hid hj2
        clear hk2 hj2 hc hy hR
        have hc := XB2.out.cell
        obtain ⟨⟨x0, x1, x2, x3⟩, -⟩ := four_cells SB2.out
        dsimp only
        gi_wp2_with fail
        refine ⟨trivial, (callsIn_wide.2 (KFz.out _ HG2.out)).mono ?_⟩
        rintro e W3 ⟨rfl, g3⟩
        have XB3 := Lib.hid (show Boxed W3 X 3 (.int .i64 z) from XB2.out.kept (grown_grew g3 none) (fun e => by cases e))
        have SB3 := Lib.hid (heap_keepI g3 SB2.out)
        have HG3 := Lib.hid (HG2.out.trans g3)
        have HJ3 := Lib.hid (HJ.out _ _ _ HJ2.out (grown_grew g3 (some X)))
        clear g3 hc x0 x1 x2 x3
        obtain ⟨bi, bp, bl, bt, bm, bk⟩ := b
        dsimp only at HBP HPL HGZ ⊢
        have hc := XB3.out.cell
        have hc4 := (XB3.out.alloc (.cells #[.int .i64 bi, .int .i64 bp, .int .i64 bl, .string bt, .string bm] 54)).cell
        have hf4 := (XB3.out.alloc (.cells #[.int .i64 bi, .int .i64 bp, .int .i64 bl, .string bt, .string bm] 54)).frozen
        have hpl := HGZ.out
        gi_wp2
        gi_roundg ((wayL t.brs bp).length)
        case measure => omega
        case rel =>
          refine ⟨bp, pre ++ [z], Nat.le_refl _, (show Aside _ from HPL.out), (show Aside _ from HBP.out), (show Aside _ from (XB3.out.alloc _).set _), (show Aside _ from ?_), (show Aside _ from (HG3.out.alloc _).setCell HXN.out _), (show Aside _ from HJ.out _ _ _ (HJ.out _ _ _ HJ3.out (World.grownBy_alloc W3 _ (some X))) (grownBy_setCell' _ X _))⟩
          rw [Below.heap_setCell _ _ _ _ HNE.out]
          exact heap_keepI ((Grew.refl W3).alloc _) SB3.out
      · dsimp only
        gi_wp2
        go_end0
        exact ⟨⟨_, rfl⟩, .inr ⟨pre ++ [z], ⟨wayL t.brs b.parent, HPL.out⟩, hjx⟩⟩
/-- upwards, as a contract of an iterator. -/
theorem upStops (t : Tr) (rv bv lv vv : Value) (w0 : World) (hT : RightT t) (hv : SlBr w0 bv t.brs) (u : Int) (hu : u = 0 ∨ ∃ b, brFind t.brs u = some b) (X Sb n : Nat) (w : World) (hG : Grew w0 w) (hXn : w0.heap.size ≤ X) (hne : Sb ≠ X) (hSb : w.heap[Sb]? = some (.cells #[rv, bv, lv, vv] 114 (0, 0))) (hXb : Boxed w X 3 (.int .i64 u)) :
    SeqStopsU Fence.wide n Tryz.prog 193 #[.pointer (some ⟨X, 0, none⟩), .pointer (some ⟨Sb, 0, none⟩)] (fun x : Int => #[Value.int .i64 x]) w0.heap.size X (fun xs => xs = wayL t.brs u) (fun pre => pre <+: wayL t.brs u) (wayL t.brs u).length w :=
  fun lp J Jx W hW hJ _ hY h0 => by
    refine callsIn_wide.2 ?_
    refine (iUp1 t rv bv lv vv w0 hT hv u hu X Sb lp (wayL t.brs u).length J Jx W (hG.trans hW) hXn hne hJ (fun m pre x W1 hj hlt => yieldFree rfl m (hY pre x W1 hj hlt)) (Nat.le_refl _) h0 (heap_keepI hW hSb) (hXb.kept (grown_grew hW none) (fun e => by cases e))).mono ?_
    rintro e W' ⟨h, h2 | ⟨pre, h2, h3⟩⟩
    · exact ⟨h, .inl ⟨_, rfl, h2⟩⟩
    · exact ⟨h, .inr ⟨pre, h2, h3⟩⟩
end Go.Proofs.YtjaknioojpgkiaaGreatDoor
