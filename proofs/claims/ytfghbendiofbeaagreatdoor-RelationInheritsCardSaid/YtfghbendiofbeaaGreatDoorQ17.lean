/- Lemmas on what the functions of the program and of the library compute: Tx. The conditions stand at each. -/
import Derived.Test.YtfghbendiofbeaaGreatDoorQ6
import Derived.Test.YtfghbendiofbeaaGreatDoorQ16
import Derived.Test.YtfghbendiofbeaaGreatDoorQ10
import Derived.Sort.Grow
import Derived.Lib.ItoaLen
import Derived.Laws.Concat
/- relation.Text, walked. The condition: the library's own variables hold what they must. -/
namespace Go.Proofs.YtfghbendiofbeaaGreatDoor
open Go.RowKit

theorem grew_grow (w : World) (k : Nat) (os : Array Obj) : Grew w (Go.Sort.grow (w.drewN k) os) := by
  refine ⟨rfl, rfl, rfl, by simp, fun b hb => ?_⟩
  rw [Go.Sort.heap_grow_old _ _ (by simpa using hb)]
  rfl
theorem itoa_any (n : Int) (h0 : -9223372036854775808 ≤ n) (h1 : n ≤ 9223372036854775807) (w : World) (hE : Env w) : Calls Tryz.prog 50 #[.int .i64 n] w fun e w' => e = .returned (.string ⟨(Lib.itoa n).toArray⟩) ∧ Grew w w' :=
  (Tryz.strconv_Itoa n h0 h1 w hE.2).mono fun _ _ ⟨he, k, os, hw⟩ => ⟨he, by rw [hw]; exact grew_grow w k os⟩
def wordF (r : Int) : ByteArray := if r = 1 then ⟨#[99, 114, 101, 97, 116, 111, 114]⟩ else if r = 2 then ⟨#[97, 117, 116, 104, 111, 114]⟩ else if r = 3 then ⟨#[115, 117, 98, 106, 101, 99, 116]⟩ else ⟨#[111, 119, 110, 101, 114]⟩
def itoaB (n : Int) : ByteArray := ⟨(Lib.itoa n).toArray⟩
def textS (x : Rel) : ByteArray := itoaB x.unit ++ ⟨#[32]⟩ ++ wordF x.role ++ ⟨#[32]⟩ ++ itoaB x.auth ++ ⟨#[32, 102, 114, 111, 109, 32]⟩ ++ itoaB x.fr
def textU (x : Rel) : ByteArray := if x.un = 1048576 then textS x else textS x ++ (⟨#[32, 117, 110, 116, 105, 108, 32]⟩ ++ itoaB x.un)
def formedR (x : Rel) : Bool := within x.unit 1 1073741824 && (within x.auth 1 1073741824 && (within x.role 1 4 && spansF x.fr x.un))
def textF (x : Rel) : ByteArray × Int := if formedR x then (textU x, 0) else (⟨#[]⟩, 2)
set_option maxHeartbeats 4000000 in
theorem rText_no (x : Rel) (w : World) (h : formedR x = false) : Calls Tryz.prog 17 #[x.agg] w fun e w' => e = .returned (.tuple #[.string ⟨#[]⟩, .int .i64 2]) ∧ Grew w w' := by
  unfold formedR at h
  have k1 := fun W => rWithin x.unit 1 1073741824 W
  have k2 := fun W => rWithin x.auth 1 1073741824 W
  have k3 := fun W => rWithin x.role 1 4 W
  have k4 := fun W => rSpans x.fr x.un W
  obtain ⟨xu, xr, xa, xf, xn⟩ := x
  unfold Rel.agg
  dsimp only at h k1 k2 k3 k4 ⊢
  generalize within xu 1 1073741824 = q1 at h k1
  generalize within xa 1 1073741824 = q2 at h k2
  generalize within xr 1 4 = q3 at h k3
  generalize spansF xf xn = q4 at h k4
  have K1 := Lib.hid k1
  have K2 := Lib.hid k2
  have K3 := Lib.hid k3
  have K4 := Lib.hid k4
  clear k1 k2 k3 k4
  cases q1 <;> cases q2 <;> cases q3 <;> cases q4
  all_goals first | (exfalso; revert h; decide) | skip
  all_goals clear h
  all_goals
    go_enter Tryz.func17, Tryz.ntmps17
    go_wp2_with (first | ((with_reducible refine (K1.out _).mono ?_); rintro e w1 ⟨rfl, rfl⟩) | ((with_reducible refine (K2.out _).mono ?_); rintro e w1 ⟨rfl, rfl⟩) | ((with_reducible refine (K3.out _).mono ?_); rintro e w1 ⟨rfl, rfl⟩) | ((with_reducible refine (K4.out _).mono ?_); rintro e w1 ⟨rfl, g1⟩))
    go_ret2
    first | exact ⟨rfl, (Grew.refl w).alloc _⟩ | exact ⟨rfl, ((Grew.refl w).alloc _).trans g1⟩
theorem itoaB_size (n : Int) (h0 : 0 ≤ n) (h1 : n ≤ 1073741824) : (itoaB n).size ≤ 21 := by
  have := Lib.itoa_length_le n (by omega) (by omega)
  simpa [itoaB, ByteArray.size] using this
theorem cat_size {a b : ByteArray} {m n : Nat} (ha : a.size ≤ m) (hb : b.size ≤ n) : (a ++ b).size ≤ m + n := by
  rw [ByteArray.size_append]
  omega
theorem cat_run {a b : ByteArray} {m n : Nat} (ha : a.size ≤ m) (hb : b.size ≤ n) (hm : m ≤ 1000) (hn : n ≤ 1000) : ∀ W : World, (Op.stringOp .add a b).run Tryz.prog W = .ok (.string (a ++ b)) W := fun W => run_string_add W a b (by omega) (by omega)
theorem formed_t {x : Rel} (h : formedR x = true) : within x.unit 1 1073741824 = true ∧ within x.auth 1 1073741824 = true ∧ within x.role 1 4 = true ∧ spansF x.fr x.un = true := by
  unfold formedR at h
  simpa using h
set_option maxHeartbeats 8000000 in
set_option maxRecDepth 100000 in
theorem rText_yes (x : Rel) (w : World) (hE : Env w) (h : formedR x = true) : Calls Tryz.prog 17 #[x.agg] w fun e w' => e = .returned (.tuple #[.string (textU x), .int .i64 0]) ∧ Grew w w' := by
  obtain ⟨h1, h2, h3, h4⟩ := formed_t h
  have k1 := fun W => rWithin x.unit 1 1073741824 W
  have k2 := fun W => rWithin x.auth 1 1073741824 W
  have k3 := fun W => rWithin x.role 1 4 W
  have k4 := fun W => rSpans x.fr x.un W
  rw [h1] at k1
  rw [h2] at k2
  rw [h3] at k3
  rw [h4] at k4
  rw [within_t] at h1 h2 h3
  rw [spans_t] at h4
  have kI := fun W (hW : Grew w W) => itoa_any x.unit (by omega) (by omega) W (hE.mono hW)
  have kA := fun W (hW : Grew w W) => itoa_any x.auth (by omega) (by omega) W (hE.mono hW)
  have kF := fun W (hW : Grew w W) => itoa_any x.fr (by omega) (by omega) W (hE.mono hW)
  have kN := fun W (hW : Grew w W) => itoa_any x.un (by omega) (by omega) W (hE.mono hW)
  change ∀ W, Grew w W → Calls Tryz.prog 50 #[.int .i64 x.unit] W fun e w' => e = .returned (.string (itoaB x.unit)) ∧ Grew W w' at kI
  change ∀ W, Grew w W → Calls Tryz.prog 50 #[.int .i64 x.auth] W fun e w' => e = .returned (.string (itoaB x.auth)) ∧ Grew W w' at kA
  change ∀ W, Grew w W → Calls Tryz.prog 50 #[.int .i64 x.fr] W fun e w' => e = .returned (.string (itoaB x.fr)) ∧ Grew W w' at kF
  change ∀ W, Grew w W → Calls Tryz.prog 50 #[.int .i64 x.un] W fun e w' => e = .returned (.string (itoaB x.un)) ∧ Grew W w' at kN
  unfold textU textS
  obtain ⟨xu, xr, xa, xf, xn⟩ := x
  unfold Rel.agg
  dsimp only at h1 h2 h3 h4 k1 k2 k3 k4 kI kA kF kN ⊢
  have hsu := itoaB_size xu (by omega) (by omega)
  have hsa := itoaB_size xa (by omega) (by omega)
  have hsf := itoaB_size xf (by omega) (by omega)
  have hsn := itoaB_size xn (by omega) (by omega)
  generalize itoaB xu = su at kI hsu ⊢
  generalize itoaB xa = sa at kA hsa ⊢
  generalize itoaB xf = sf at kF hsf ⊢
  generalize itoaB xn = sn at kN hsn ⊢
  have K1 := Lib.hid k1
  have K2 := Lib.hid k2
  have K3 := Lib.hid k3
  have K4 := Lib.hid k4
  have KI := Lib.hid kI
  have KA := Lib.hid kA
  have KF := Lib.hid kF
  have KN := Lib.hid kN
  have hw : (wordF xr).size ≤ 7 := by
    unfold wordF
    split
    · decide
    · split
      · decide
      · split <;> decide
  have hr : (xr = 1 ∧ wordF xr = ⟨#[99, 114, 101, 97, 116, 111, 114]⟩) ∨ (xr = 2 ∧ wordF xr = ⟨#[97, 117, 116, 104, 111, 114]⟩) ∨ (xr = 3 ∧ wordF xr = ⟨#[115, 117, 98, 106, 101, 99, 116]⟩) ∨ (xr = 4 ∧ wordF xr = ⟨#[111, 119, 110, 101, 114]⟩) := by
    have h : xr = 1 ∨ xr = 2 ∨ xr = 3 ∨ xr = 4 := by omega
    rcases h with rfl | rfl | rfl | rfl <;> simp [wordF]
  have hsp : (⟨#[32]⟩ : ByteArray).size ≤ 1 := by decide
  have hfm : (⟨#[32, 102, 114, 111, 109, 32]⟩ : ByteArray).size ≤ 6 := by decide
  have hut : (⟨#[32, 117, 110, 116, 105, 108, 32]⟩ : ByteArray).size ≤ 7 := by decide
  have z1 := cat_size hsu hsp
  have z2 := cat_size z1 hw
  have z3 := cat_size z2 hsp
  have z4 := cat_size z3 hsa
  have z5 := cat_size z4 hfm
  have z6 := cat_size z5 hsf
  have z7 := cat_size hut hsn
  have r1 := cat_run hsu hsp (by omega) (by omega)
  have r2 := cat_run z1 hw (by omega) (by omega)
  have r3 := cat_run z2 hsp (by omega) (by omega)
  have r4 := cat_run z3 hsa (by omega) (by omega)
  have r5 := cat_run z4 hfm (by omega) (by omega)
  have r6 := cat_run z5 hsf (by omega) (by omega)
  have r7 := cat_run hut hsn (by omega) (by omega)
  have r8 := cat_run z6 z7 (by omega) (by omega)
  clear hsu hsa hsf hsn hw hsp hfm hut z1 z2 z3 z4 z5 z6 z7
  clear k1 k2 k3 k4 kI kA kF kN h1 h2 h3 h4 h hE
  rcases hr with ⟨rfl, hw⟩ | ⟨rfl, hw⟩ | ⟨rfl, hw⟩ | ⟨rfl, hw⟩
  all_goals
    rw [hw] at r2 r3 r4 r5 r6 r8 ⊢
    clear hw
    by_cases hu : xn = 1048576
    case pos =>
      subst hu
      simp only [if_true]
      go_enter Tryz.func17, Tryz.ntmps17
      go_wp2_with (first | ((with_reducible refine (K1.out _).mono ?_); rintro e w1 ⟨rfl, rfl⟩) | ((with_reducible refine (K2.out _).mono ?_); rintro e w1 ⟨rfl, rfl⟩) | ((with_reducible refine (K3.out _).mono ?_); rintro e w1 ⟨rfl, rfl⟩) | ((with_reducible refine (K4.out _).mono ?_); rintro e w1 ⟨rfl, g1⟩))
      have GX := Lib.hid (show Grew w (w1.alloc (.cells #[.string ⟨#[]⟩, .string ⟨#[99, 114, 101, 97, 116, 111, 114]⟩, .string ⟨#[97, 117, 116, 104, 111, 114]⟩, .string ⟨#[115, 117, 98, 106, 101, 99, 116]⟩, .string ⟨#[111, 119, 110, 101, 114]⟩] 81)) from (((Grew.refl w).alloc _).trans g1).alloc _)
      have GY := Lib.hid ((Grew.refl w1).alloc (.cells #[.string ⟨#[]⟩, .string ⟨#[99, 114, 101, 97, 116, 111, 114]⟩, .string ⟨#[97, 117, 116, 104, 111, 114]⟩, .string ⟨#[115, 117, 98, 106, 101, 99, 116]⟩, .string ⟨#[111, 119, 110, 101, 114]⟩] 81))
      have f0 := Gr.cell (keep_cell GY.out (new_cell g1 0 _ rfl))
      have f1 := Gr.cell (keep_cell GY.out (new_cell g1 1 _ rfl))
      have f2 := Gr.cell (keep_cell GY.out (new_cell g1 2 _ rfl))
      have f3 := Gr.cell (keep_cell GY.out (new_cell g1 3 _ rfl))
      have b4 := keep_cell GY.out (new_cell g1 4 _ rfl)
      have f4 := Gr.cell b4
      have hx : ∀ j v, ([.string ⟨#[]⟩, .string ⟨#[99, 114, 101, 97, 116, 111, 114]⟩, .string ⟨#[97, 117, 116, 104, 111, 114]⟩, .string ⟨#[115, 117, 98, 106, 101, 99, 116]⟩, .string ⟨#[111, 119, 110, 101, 114]⟩] : List Value)[j]? = some v → (w1.alloc (.cells #[.string ⟨#[]⟩, .string ⟨#[99, 114, 101, 97, 116, 111, 114]⟩, .string ⟨#[97, 117, 116, 104, 111, 114]⟩, .string ⟨#[115, 117, 98, 106, 101, 99, 116]⟩, .string ⟨#[111, 119, 110, 101, 114]⟩] 81)).cell? ⟨w1.heap.size, j, none⟩ = some v := fun j v hj => new_cell (Grew.refl _) j v hj
      have e1 := Gr.cell (hx 1 _ rfl)
      have e2 := Gr.cell (hx 2 _ rfl)
      have e3 := Gr.cell (hx 3 _ rfl)
      have e4 := Gr.cell (hx 4 _ rfl)
      clear g1 hx GY
      generalize w1.alloc (.cells #[.string ⟨#[]⟩, .string ⟨#[99, 114, 101, 97, 116, 111, 114]⟩, .string ⟨#[97, 117, 116, 104, 111, 114]⟩, .string ⟨#[115, 117, 98, 106, 101, 99, 116]⟩, .string ⟨#[111, 119, 110, 101, 114]⟩] 81) = W2 at GX f0 f1 f2 f3 f4 e1 e2 e3 e4 b4 ⊢
      refine region_gr W2 (by kernel_rfl) (by kernel_rfl) (Grew.refl _) ?_
      repeat (first | go_big_quiet_step ((exact Gr.calls _ (by first | exact KI.out _ (GX.out.trans (Gr.g _)) | exact KA.out _ (GX.out.trans (Gr.g _)) | exact KF.out _ (GX.out.trans (Gr.g _))))) | quiet_step ((exact Gr.calls _ (by first | exact KI.out _ (GX.out.trans (Gr.g _)) | exact KA.out _ (GX.out.trans (Gr.g _)) | exact KF.out _ (GX.out.trans (Gr.g _))))))
      refine wpQuiet_nil ?_
      intro _ hw'
      obtain ⟨wi, rfl⟩ := hw'
      have HWI := Lib.hid wi.g
      have GW := Lib.hid (GX.out.trans wi.g)
      have c4 := keep_cell HWI.out b4
      clear f0 f1 f2 f3 f4 e1 e2 e3 e4 b4
      go_wp2
      go_ret2
      exact ⟨rfl, GW.out⟩
    case neg =>
      have hu' : (xn != 1048576) = true := by simpa using hu
      rw [if_neg hu]
      clear hu
      go_enter Tryz.func17, Tryz.ntmps17
      go_wp2_with (first | ((with_reducible refine (K1.out _).mono ?_); rintro e w1 ⟨rfl, rfl⟩) | ((with_reducible refine (K2.out _).mono ?_); rintro e w1 ⟨rfl, rfl⟩) | ((with_reducible refine (K3.out _).mono ?_); rintro e w1 ⟨rfl, rfl⟩) | ((with_reducible refine (K4.out _).mono ?_); rintro e w1 ⟨rfl, g1⟩))
      have GX := Lib.hid (show Grew w (w1.alloc (.cells #[.string ⟨#[]⟩, .string ⟨#[99, 114, 101, 97, 116, 111, 114]⟩, .string ⟨#[97, 117, 116, 104, 111, 114]⟩, .string ⟨#[115, 117, 98, 106, 101, 99, 116]⟩, .string ⟨#[111, 119, 110, 101, 114]⟩] 81)) from (((Grew.refl w).alloc _).trans g1).alloc _)
      have GY := Lib.hid ((Grew.refl w1).alloc (.cells #[.string ⟨#[]⟩, .string ⟨#[99, 114, 101, 97, 116, 111, 114]⟩, .string ⟨#[97, 117, 116, 104, 111, 114]⟩, .string ⟨#[115, 117, 98, 106, 101, 99, 116]⟩, .string ⟨#[111, 119, 110, 101, 114]⟩] 81))
      have f0 := Gr.cell (keep_cell GY.out (new_cell g1 0 _ rfl))
      have f1 := Gr.cell (keep_cell GY.out (new_cell g1 1 _ rfl))
      have f2 := Gr.cell (keep_cell GY.out (new_cell g1 2 _ rfl))
      have f3 := Gr.cell (keep_cell GY.out (new_cell g1 3 _ rfl))
      have b4 := keep_cell GY.out (new_cell g1 4 _ rfl)
      have f4 := Gr.cell b4
      have hx : ∀ j v, ([.string ⟨#[]⟩, .string ⟨#[99, 114, 101, 97, 116, 111, 114]⟩, .string ⟨#[97, 117, 116, 104, 111, 114]⟩, .string ⟨#[115, 117, 98, 106, 101, 99, 116]⟩, .string ⟨#[111, 119, 110, 101, 114]⟩] : List Value)[j]? = some v → (w1.alloc (.cells #[.string ⟨#[]⟩, .string ⟨#[99, 114, 101, 97, 116, 111, 114]⟩, .string ⟨#[97, 117, 116, 104, 111, 114]⟩, .string ⟨#[115, 117, 98, 106, 101, 99, 116]⟩, .string ⟨#[111, 119, 110, 101, 114]⟩] 81)).cell? ⟨w1.heap.size, j, none⟩ = some v := fun j v hj => new_cell (Grew.refl _) j v hj
      have e1 := Gr.cell (hx 1 _ rfl)
      have e2 := Gr.cell (hx 2 _ rfl)
      have e3 := Gr.cell (hx 3 _ rfl)
      have e4 := Gr.cell (hx 4 _ rfl)
      clear g1 hx GY
      generalize w1.alloc (.cells #[.string ⟨#[]⟩, .string ⟨#[99, 114, 101, 97, 116, 111, 114]⟩, .string ⟨#[97, 117, 116, 104, 111, 114]⟩, .string ⟨#[115, 117, 98, 106, 101, 99, 116]⟩, .string ⟨#[111, 119, 110, 101, 114]⟩] 81) = W2 at GX f0 f1 f2 f3 f4 e1 e2 e3 e4 b4 ⊢
      refine region_gr W2 (by kernel_rfl) (by kernel_rfl) (Grew.refl _) ?_
      repeat (first | go_big_quiet_step ((exact Gr.calls _ (by first | exact KI.out _ (GX.out.trans (Gr.g _)) | exact KA.out _ (GX.out.trans (Gr.g _)) | exact KF.out _ (GX.out.trans (Gr.g _))))) | quiet_step ((exact Gr.calls _ (by first | exact KI.out _ (GX.out.trans (Gr.g _)) | exact KA.out _ (GX.out.trans (Gr.g _)) | exact KF.out _ (GX.out.trans (Gr.g _))))))
      refine wpQuiet_nil ?_
      intro _ hw'
      obtain ⟨wi, rfl⟩ := hw'
      have HWI := Lib.hid wi.g
      have GW := Lib.hid (GX.out.trans wi.g)
      have c4 := keep_cell HWI.out b4
      clear f0 f1 f2 f3 f4 e1 e2 e3 e4 b4
      go_wp2_with fail
      refine (KN.out _ GW.out).mono ?_
      rintro e w5 ⟨rfl, g5⟩
      dsimp only
      go_wp2
      go_ret2
      exact ⟨rfl, GW.out.trans g5⟩
theorem rText (x : Rel) (w : World) (hE : Env w) : Calls Tryz.prog 17 #[x.agg] w fun e w' => e = .returned (.tuple #[.string (textF x).1, .int .i64 (textF x).2]) ∧ Grew w w' := by
  unfold textF
  cases h : formedR x
  · exact rText_no x w h
  · exact rText_yes x w hE h
end Go.Proofs.YtfghbendiofbeaaGreatDoor
