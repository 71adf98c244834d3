/- Lemmas on what the functions of the program and of the library compute: IG1. The conditions stand at each. -/
import Derived.Test.YtmbpeniaefpljaaGreatDoorQ30
import Derived.Test.YtmbpeniaefpljaaGreatDoorQ32
/- The closure of inherit.Gaps, walked. No condition. -/
namespace Go.Proofs.YtmbpeniaefpljaaGreatDoor
open Go.RowKit

set_option maxHeartbeats 8000000 in
set_option maxRecDepth 100000 in
/-- The closure of Gaps: whether a unit has an effective value in the first language. -/
theorem iGaps1 (o : Option Val) (x n : Int) (l0 : ByteArray) (Ar Ab Al Av : Option Addr) (nr cr nb cb nl cl nv cv : Nat) (Bl off nl' cl' : Nat) (Sb Nb Lb : Nat) (W : World) (hs : W.heap[Sb]? = some (.cells #[.slice Ar nr cr, .slice Ab nb cb, .slice Al nl cl, .slice Av nv cv] 68 (0, 0)))
    (hn : W.heap[Nb]? = some (.cells #[.int .i64 n] 3 (0, 0))) (hl : W.heap[Lb]? = some (.cells #[.slice (some ⟨Bl, off, none⟩) nl' cl'] 26 (0, 0))) (hpos : 0 < nl') (hl0 : W.cell? ⟨Bl, off, none⟩ = some (.string l0))
    (hK : ∀ W', Grew W W' → Calls Tryz.prog 51 #[.agg #[.slice Ar nr cr, .slice Ab nb cb, .slice Al nl cl, .slice Av nv cv], .int .i64 x, .int .i64 n, .string l0] W' (RetV o W')) :
    Calls Tryz.prog 60 (#[.int .i64 x] ++ #[.pointer (some ⟨Sb, 0, none⟩), .pointer (some ⟨Nb, 0, none⟩), .pointer (some ⟨Lb, 0, none⟩)]) W fun e w' => e = .returned (.bool o.isSome) ∧ Grew W w' := by
  obtain ⟨⟨x0, x1, x2, x3⟩, -⟩ := four_cells hs
  have y0 := (one_cell hn).1
  have lb0 := (one_cell hl).1
  have hposz : (0 : Int) < (nl' : Int) := by omega
  unfold RetV at hK
  generalize o.isSome = s at hK ⊢
  generalize o.getD val0 = v at hK
  obtain ⟨xu, xe, xl, xt⟩ := v
  unfold Val.agg at hK
  dsimp only at hK
  have HK := Lib.hid hK
  clear hs hn hl hK
  go_enter Tryz.func60, Tryz.ntmps60
  go_wp2
  go_cut [6, 7] from 8 to 17 (fun s6 s7 wx => ValCut W xu xe xl xt s s6 s7 wx)
  case first =>
    as_aux_lemma =>
      go_region_held3 (fun W2 => W2.cell? ⟨Sb, 0, none⟩ = some (.slice Ar nr cr) ∧ W2.cell? ⟨Sb, 1, none⟩ = some (.slice Ab nb cb) ∧ W2.cell? ⟨Sb, 2, none⟩ = some (.slice Al nl cl) ∧ W2.cell? ⟨Sb, 3, none⟩ = some (.slice Av nv cv) ∧ W2.cell? ⟨Nb, 0, none⟩ = some (.int .i64 n) ∧ W2.cell? ⟨Lb, 0, none⟩ = some (.slice (some ⟨Bl, off, none⟩) nl' cl') ∧ W2.cell? ⟨Bl, off, none⟩ = some (.string l0) ∧ Grew W W2) (refine held7 W _ x0 x1 x2 x3 y0 lb0 hl0 (by repeat (with_reducible first | exact Grew.refl W | exact GQ.out | refine Grew.drew ?_ | refine Grew.alloc ?_ _ | refine Grew.setCell ?_ (by first | exact Nat.le_refl _ | exact GQ.out.size | simp) _))) ((go_at_call 51; refine (HK.out _ (by repeat (with_reducible first | exact Grew.refl W | refine Grew.drew ?_ | refine Grew.alloc ?_ _))).mono ?_; rintro e wq ⟨rfl, gq⟩; have GQ := Lib.hid (show Grew W wq from Grew.trans (by repeat (with_reducible first | exact Grew.refl W | refine Grew.drew ?_ | refine Grew.alloc ?_ _)) gq); (try (have hdr : Grew (W.alloc (.cells [.int .i64 0, .int .i64 0, .string ⟨#[]⟩, .string ⟨#[]⟩].toArray 31)).drew wq := (by with_reducible exact gq); have qq := four_cells (heap_keepI (Grew.trans (Grew.refl _).drew hdr) (heap_newI W (.cells [.int .i64 0, .int .i64 0, .string ⟨#[]⟩, .string ⟨#[]⟩].toArray 31))); obtain ⟨⟨q0, q1, q2, q3⟩, z0, z1, z2, z3⟩ := qq)); clear gq))
      all_goals go_wp2_with fail
      all_goals go_meet
      all_goals with_reducible first | exact val_meet2 GQ.out | exact val_meet q0 q1 q2 q3 (Nat.le_refl _) GQ.out
  case rest =>
    as_aux_lemma =>
      obtain ⟨U, rfl, rfl, u0, u1, u2, u3, GC⟩ := hcut
      clear u0 u1 u2 u3
      go_wp2
      go_ret
      exact ⟨rfl, GC.out⟩
theorem enters_iGaps1 : ∀ args w, (callFunc 60 args).run Tryz.prog w = .ok (.enter 60 args) w := enters_of Tryz.func60 (by kernel_rfl) rfl
end Go.Proofs.YtmbpeniaefpljaaGreatDoor
