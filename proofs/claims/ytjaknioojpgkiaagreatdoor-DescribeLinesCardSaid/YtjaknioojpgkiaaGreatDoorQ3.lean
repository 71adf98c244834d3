/- Lemmas on what the functions of the program and of the library compute: T3, SeqI, SortI, SlR, EqR, App, App2, T4, Gr2. The conditions stand at each. -/
import Derived.Test.YtjaknioojpgkiaaGreatDoorQ2
import Derived.RangeFuncBox
import Derived.RangeFuncLeaves
import Derived.OwnWalkIn
import Derived.TacticsInMore
import Derived.LoopNIn
import Derived.LoopIn
import Derived.Maps.AppendAt
import Derived.Test.YtjaknioojpgkiaaGreatDoorProg
import Derived.Test.YtjaknioojpgkiaaGreatDoorQ1
import Derived.Lib.LazyBuf
/- tree.placed, walked. No condition. -/
namespace Go.Proofs.YtjaknioojpgkiaaGreatDoor
open Go.RowKit

set_option maxHeartbeats 4000000 in
theorem tPlaced (l : List Br) (i : Nat) (hi : i < l.length) (rv bv : Value) (w : World) (hv : SlBr w bv l) :
    Calls Tryz.prog 187 #[.agg #[rv, bv], .int .i64 i] w (RetIff (BrPlaced l l[i]) w) := by
  have HV := Lib.hid hv
  obtain ⟨A, c, rfl, hlc, hc, hr⟩ := hv.open_
  unfold maxLen at hc
  obtain ⟨b, off, rfl, hbk, hcell⟩ := hr (by omega)
  have HCELL := Lib.hid hcell
  obtain ⟨kv, -, hcl⟩ := hcell i hi
  obtain ⟨c0, c1, c2, c3, c4, -⟩ := hcl w (Grew.refl w)
  have HD : RowKit.Hid (BrPlaced l l[i] ↔ if l[i].parent = 0 then l[i].level = 1 else ∃ p, brFind l l[i].parent = some p ∧ l[i].level ≠ 1 ∧ fitsF p.level l[i].level = true) := Iff.rfl
  have hiz : (i : Int) < (l.length : Int) := by omega
  have h0z : (0 : Int) ≤ (i : Int) := by omega
  generalize BrPlaced l l[i] = PA at HD ⊢
  generalize l[i] = y at c0 c1 c2 c3 c4 HD
  obtain ⟨yi, yp, yl, yt, ym, yk⟩ := y
  dsimp only at c0 c1 c2 c3 c4 HD
  have kI := fun W (hW : Grew w W) => tIndex l yp rv (.slice (some ⟨b, off, none⟩) l.length c) W (HV.out.mono hW)
  have GB : Grew w ((w.alloc (.cells [rv, .slice (some ⟨b, off, none⟩) l.length c].toArray 25)).alloc (.cells [.int .i64 yi, .int .i64 yp, .int .i64 yl, .string yt, .string ym].toArray 54)) := ((Grew.refl w).alloc _).alloc _
  have HGB := Lib.hid GB
  clear hcell hcl hr hv GB
  by_cases hp : yp = 0
  · subst hp
    have HDI : RowKit.Hid (PA ↔ yl = 1) := by
      show _ ↔ _
      rw [HD.out, if_pos rfl]
    clear kI
    by_cases h1 : yl = 1
    · subst h1
      have Hy : RowKit.Hid PA := HDI.out.2 rfl
      go_enter Tryz.func187, Tryz.ntmps187
      go_wp2
      go_ret
      exact RetIff.yes Hy.out HGB.out
    · have h1' : (yl != 1) = true := by simpa using h1
      have Hn : RowKit.Hid (¬ PA) := fun h => h1 (HDI.out.1 h)
      clear h1
      go_enter Tryz.func187, Tryz.ntmps187
      go_wp2
      go_ret
      exact RetIff.no 18 (by decide) Hn.out HGB.out
  have hp' : (yp == 0) = false := by simpa using hp
  have HDI : RowKit.Hid (PA ↔ ∃ p, brFind l yp = some p ∧ yl ≠ 1 ∧ fitsF p.level yl = true) := by
    show _ ↔ _
    rw [HD.out, if_neg hp]
  clear HD hp
  cases ho : brFind l yp with
  | none =>
    rw [brIdx_none ho] at kI
    have KI := Lib.hid kI
    have Hn : RowKit.Hid (¬ PA) := fun h => by
      obtain ⟨p, hpp, _⟩ := HDI.out.1 h
      rw [ho] at hpp
      cases hpp
    clear kI ho
    go_enter Tryz.func187, Tryz.ntmps187
    go_wp2_with fail
    refine (KI.out _ HGB.out).mono ?_
    rintro e w1 ⟨rfl, g1⟩
    have HW1 := Lib.hid (HGB.out.trans g1)
    clear g1
    dsimp only
    go_wp2
    go_ret
    exact RetIff.no 7 (by decide) Hn.out HW1.out
  | some p =>
    obtain ⟨k, hk, ek, e⟩ := brIdx_some ho
    rw [ek] at kI
    have HDJ : RowKit.Hid (PA ↔ yl ≠ 1 ∧ fitsF p.level yl = true) := by
      show _ ↔ _
      rw [HDI.out, ho]
      simp
    subst e
    have KI := Lib.hid kI
    have HF := Lib.hid (tFits l[k].level yl)
    have HCK := Lib.hid (HCELL.out k hk)
    generalize fitsF l[k].level yl = ff at HDJ HF
    generalize hlv : l[k].level = pl at HF
    have HLV := Lib.hid hlv
    have hkz : (k : Int) < (l.length : Int) := by omega
    have h0k : (0 : Int) ≤ (k : Int) := by omega
    have hkn : ¬ (k : Int) < 0 := by omega
    clear kI ho ek hlv HDI
    go_enter Tryz.func187, Tryz.ntmps187
    go_wp2_with fail
    refine (KI.out _ HGB.out).mono ?_
    rintro e w1 ⟨rfl, g1⟩
    have HW1 := Lib.hid (HGB.out.trans g1)
    have f2 := Gr.cell (newer_cell g1 2 _ rfl)
    have t1 := Gr.cell (tree_cell g1 1 _ rfl)
    obtain ⟨_, _, hq⟩ := HCK.out
    obtain ⟨-, -, d2, -, -, -⟩ := hq w1 HW1.out
    rw [HLV.out] at d2
    have d2' := Gr.cell d2
    clear g1 hq d2 HCK
    dsimp only
    by_cases h1 : yl = 1
    · subst h1
      have Hn : RowKit.Hid (¬ PA) := fun h => (HDJ.out.1 h).1 rfl
      go_wp2
      refine region_gr w1 (by kernel_rfl) (by kernel_rfl) (Grew.refl _) ?_
      repeat (first | go_big_quiet_step (fail) | quiet_step (fail))
      refine wpQuiet_nil ?_
      intro _ hw'
      obtain ⟨wi, rfl⟩ := hw'
      have HWI := Lib.hid wi.g
      clear f2 t1 d2'
      go_wp2
      go_ret
      exact RetIff.no 18 (by decide) Hn.out (HW1.out.trans HWI.out)
    · have h1' : (yl == 1) = false := by simpa using h1
      have Hy1 := Lib.hid h1
      clear h1
      cases ff with
      | false =>
        have Hn : RowKit.Hid (¬ PA) := fun h => by have := (HDJ.out.1 h).2; cases this
        go_wp2
        refine region_gr w1 (by kernel_rfl) (by kernel_rfl) (Grew.refl _) ?_
        repeat (first | go_big_quiet_step ((exact Gr.same _ (HF.out _))) | quiet_step ((exact Gr.same _ (HF.out _))))
        refine wpQuiet_nil ?_
        intro _ hw'
        obtain ⟨wi, rfl⟩ := hw'
        have HWI := Lib.hid wi.g
        clear f2 t1 d2'
        go_wp2
        go_ret
        exact RetIff.no 18 (by decide) Hn.out (HW1.out.trans HWI.out)
      | true =>
        have Hy : RowKit.Hid PA := HDJ.out.2 ⟨Hy1.out, by first | rfl | trivial⟩
        go_wp2
        refine region_gr w1 (by kernel_rfl) (by kernel_rfl) (Grew.refl _) ?_
        repeat (first | go_big_quiet_step ((exact Gr.same _ (HF.out _))) | quiet_step ((exact Gr.same _ (HF.out _))))
        refine wpQuiet_nil ?_
        intro _ hw'
        obtain ⟨wi, rfl⟩ := hw'
        have HWI := Lib.hid wi.g
        clear f2 t1 d2'
        go_wp2
        go_ret
        exact RetIff.yes Hy.out (HW1.out.trans HWI.out)
end Go.Proofs.YtjaknioojpgkiaaGreatDoor

/- slices.Collect over slices.Values: a slice of its own that holds what the slice holds. No condition but the sizes that a slice can have. -/
namespace Go.Proofs.YtjaknioojpgkiaaGreatDoor
open Go.RowKit Go.Shelf

attribute [local go_sem] Oper.semAt_some

theorem infoI : (Tryz.prog.info? 3).map (fun i => (i.zero, i.size, i.bytes)) = some (some (.int .i64 0), 1, 8) := by kernel_rfl
set_option maxRecDepth 100000 in
set_option maxHeartbeats 2000000 in
theorem values1I_in (F : Fence) (n : Nat) (h7 : F.fn 260) (hro : F.round = none) (hn : 1 ≤ n) (l Bs n₀ b off cap : Nat) (zs : List Int) (hreach : zs.length ≤ 9223372036854775807) (hb : b < n₀) (J Jx : List Int → World → Prop)
    (hY : ∀ pre x W, J pre W → pre.length < zs.length → YieldAt F (n - 1) Tryz.prog l #[Value.int .i64 x] W fun e W' =>
      (e = .returned (.bool true) ∧ J (pre ++ [x]) W' ∧ Below n₀ W W') ∨ (e = .returned (.bool false) ∧ Jx (pre ++ [x]) W'))
    (W : World) (hBs : W.cell? ⟨Bs, 0, none⟩ = some (.slice (some ⟨b, off, none⟩) zs.length cap)) (hc : ∀ j (hj : j < zs.length), W.cell? ⟨b, off + j, none⟩ = some (Value.int .i64 zs[j])) (h0 : J [] W) :
    CallsIn F n Tryz.prog 260 #[.func (.yield l) #[] #[], .pointer (some ⟨Bs, 0, none⟩)] W fun e W' => (∃ v, e = .returned v) ∧
      ((∃ ys, ys = zs ∧ J ys W') ∨ (∃ pre, pre <+: zs ∧ Jx pre W')) := by
  refine callsIn_of_wp Tryz.func260 rfl h7 ?_ hro
  simp only [Tryz.ntmps260, List.size_toArray, List.length_cons, List.length_nil, Nat.reduceAdd, Nat.reduceSub, Array.replicate_succ, Array.replicate_zero, List.push_toArray, List.append_toArray, List.nil_append, List.cons_append]
  have HC := Lib.hid hc
  have HY := Lib.hid hY
  clear hc hY
  gi_wp2
  gi_loopw [7] (fun i wr => ∃ k : Nat, k ≤ zs.length ∧ i = .int .i64 k ∧ J (zs.take k) wr ∧ Below n₀ W wr)
    (fun i _ => zs.length - (intOf i).toNat)
  case atStart => exact ⟨0, Nat.zero_le _, rfl, h0, Below.refl _ _⟩
  case round =>
    obtain ⟨k, hk, rfl, hJs, hnx⟩ := hrel
    by_cases hlt : k < zs.length
    · have hcx' : wr.cell? ⟨b, off + k, none⟩ = some (Value.int .i64 zs[k]) := (hnx.cell (p := ⟨b, off + k, none⟩) hb).trans (HC.out k hlt)
      obtain ⟨fn, tmps, assign, body, hy, hR⟩ := HY.out _ zs[k] wr hJs (by rw [List.length_take]; omega)
      have HT := Lib.hid (List.take_succ_eq_append_getElem hlt)
      generalize zs[k] = y at hcx' hy hR HT
      gi_wp2
      refine hR.mono ?_
      rintro e W3 (⟨rfl, hJ3, hk3⟩ | ⟨rfl, hJx3⟩)
      · gi_wp2
        go_roundw
        case rel => exact ⟨k + 1, by omega, by simp, by rw [HT.out]; exact hJ3, hnx.trans hk3⟩
        case measure => simp [intOf]; omega
      · gi_wp2
        refine bodyPost_ret (results_none rfl _ _ _) rfl ?_
        exact ⟨⟨_, rfl⟩, .inr ⟨_, by rw [← HT.out]; exact List.take_prefix _ _, hJx3⟩⟩
    · have e : zs.take k = zs := List.take_of_length_le (by omega)
      rw [e] at hJs
      clear e
      gi_wp2
      go_end0
      exact ⟨⟨_, rfl⟩, .inl ⟨_, rfl, hJs⟩⟩

set_option maxRecDepth 100000 in
set_option maxHeartbeats 1000000 in
theorem values1I_nil_in (F : Fence) (n : Nat) (h7 : F.fn 260) (hro : F.round = none) (l Bs : Nat) (A : Option Addr) (cap : Nat) (J : List Int → World → Prop) (W : World) (hBs : W.cell? ⟨Bs, 0, none⟩ = some (.slice A 0 cap)) (h0 : J [] W) :
    CallsIn F n Tryz.prog 260 #[.func (.yield l) #[] #[], .pointer (some ⟨Bs, 0, none⟩)] W fun e W' => (∃ v, e = .returned v) ∧ J [] W' := by
  refine callsIn_of_wp Tryz.func260 rfl h7 ?_ hro
  simp only [Tryz.ntmps260, List.size_toArray, List.length_cons, List.length_nil, Nat.reduceAdd, Nat.reduceSub, Array.replicate_succ, Array.replicate_zero, List.push_toArray, List.append_toArray, List.nil_append, List.cons_append]
  gi_wp2
  gi_loopw [7] (fun i wr => i = .int .i64 0 ∧ J [] wr) (fun _ _ => 0)
  case atStart => exact ⟨rfl, h0⟩
  case round =>
    obtain ⟨rfl, hJs⟩ := hrel
    gi_wp2
    go_end0
    exact ⟨⟨_, rfl⟩, hJs⟩

theorem valuesI_any (A : Option Addr) (n c : Nat) (w : World) : Calls Tryz.prog 228 #[.slice A n c] w fun e w' => e = .returned (.func (.func 260) #[] #[.pointer (some ⟨w.heap.size, 0, none⟩)]) ∧ w.alloc (.cells #[.slice A n c] 22) = w' := by
  go_enter Tryz.func228, Tryz.ntmps228
  go_wp2
  go_ret
  exact ⟨rfl, rfl⟩

theorem valuesI_stops (F : Fence) (n : Nat) (h7 : F.fn 260) (hro : F.round = none) (hn : 1 ≤ n) (Bs n₀ : Nat) (sv : Value) (zs : List Int) (w w0 : World) (hBs : Bs < w.heap.size) (hn₀ : n₀ ≤ w.heap.size) (hw0 : w0.heap.size = n₀) (hg : Below n₀ w0 w)
    (hc : w.cell? ⟨Bs, 0, none⟩ = some sv) (hI : SlI w0 sv zs) :
    SeqStopsK F n Tryz.prog 260 #[.pointer (some ⟨Bs, 0, none⟩)] (fun x : Int => #[Value.int .i64 x]) (Below n₀) (fun ys => ys = zs) (fun pre => pre <+: zs) zs.length w := fun l J Jx W hW _ _ hY h0 => by
  have hc' := (hW.cell (p := ⟨Bs, 0, none⟩) hBs).trans hc
  obtain ⟨A, c, rfl, hlc, hcm, hr⟩ := hI.open_
  rcases Nat.eq_zero_or_pos zs.length with hz | hz
  · obtain rfl : zs = [] := List.eq_nil_of_length_eq_zero hz
    exact (values1I_nil_in F n h7 hro l Bs A c J W hc' h0).mono fun e W' ⟨he, hj⟩ => ⟨he, .inl ⟨_, rfl, hj⟩⟩
  · obtain ⟨b, off, rfl, hb, hcell⟩ := hr hz
    have hgw : Grew w0 W := by
      have := hg.trans (hW.mono hn₀)
      unfold Grew
      rw [hw0]
      exact this
    exact values1I_in F n h7 hro hn l Bs n₀ b off c zs (by unfold maxLen at hcm; omega) (by omega) J Jx hY W hc' (fun j hj => hcell W hgw j hj) h0

set_option maxRecDepth 100000 in
set_option maxHeartbeats 4000000 in
/-- slices.AppendSeq, from nothing, over slices.Values. -/
theorem appendSeqI_in (F : Fence) (n : Nat) (h3 : F.fn 275) (h5 : F.fn 260) (hro : F.round = none) (hn : 3 ≤ n) (Bs n₀ : Nat) (sv : Value) (zs : List Int) (hlen : zs.length ≤ maxLen) (hbytes : zs.length * 8 ≤ 140737488355328) (w w0 : World)
    (hBs : Bs < w.heap.size) (hn₀ : n₀ ≤ w.heap.size) (hw0 : w0.heap.size = n₀) (hg : Below n₀ w0 w) (hc : w.cell? ⟨Bs, 0, none⟩ = some sv) (hI : SlI w0 sv zs) :
    CallsIn F n Tryz.prog 275 #[.slice none 0 0, .func (.func 260) #[] #[.pointer (some ⟨Bs, 0, none⟩)]] w fun e W' => ∃ v, e = .returned v ∧ W'.ownsRow w.heap.size 3 1 v zs.length (zs.map (Value.int .i64)) ∧ Below w.heap.size w W' := by
  have h1 : 1 ≤ n := by omega
  obtain ⟨i0, hi, hz0, hz1, hz2⟩ := info_parts infoI
  refine callsIn_of_wp_marks Tryz.func275 rfl h3 ?_ hro
  simp only [Tryz.ntmps275, List.size_toArray, List.length_cons, List.length_nil, Nat.reduceAdd, Nat.reduceSub, Array.replicate_succ, Array.replicate_zero, List.push_toArray, List.append_toArray, List.nil_append, List.cons_append]
  unfold maxLen at hlen
  gi_wp2
  have bO := Boxed.new w 22 (.slice none 0 0)
  have hB0 : Below w.heap.size w (w.alloc (.cells #[.slice none 0 0] 22)) := (Below.refl _ w).alloc (Nat.le_refl _) _
  refine wpIn_rangeFunc_ownG hro h1 (gf := 260) (lb := #[.pointer (some ⟨Bs, 0, none⟩)]) rfl h5 (enters_of Tryz.func260 (by kernel_rfl) rfl)
    (valuesI_stops F (n - 1) h5 hro (by omega) Bs n₀ sv zs _ w0 (by simp; omega) (by simp; omega) hw0 (hg.trans (hB0.mono hn₀)) ((World.cell?_alloc_lt _ _ _ hBs).trans hc) hI) belowK_t (belowK_b (by simp; omega)) (Below.refl _ _) (fun _ => rfl)
    (fun pre W => (∃ v, Boxed W w.heap.size 22 v ∧ W.ownsRow w.heap.size 3 1 v pre.length (pre.map (Value.int .i64)) ∧ (v = .slice none 0 0 ↔ pre = [])) ∧ Below w.heap.size w W)
    (fun _ _ _ => False)
    (OwnFrom.and (Own.from (holdsRow_own w.heap.size w.heap.size 22 3 1 (fun pre => pre.length) (fun pre => pre.map (Value.int .i64)) (fun pre v => v = .slice none 0 0 ↔ pre = [])) _) (ownFrom_below (Nat.le_refl _) (by simp)))
    (fun _ _ _ _ _ hs _ _ => hs)
    ⟨⟨_, bO, World.ownsRow_nil _ _ _ _, by simp⟩, hB0⟩
    (fun x => { tmps := #[.slice none 0 0, .func (.func 260) #[] #[.pointer (some ⟨Bs, 0, none⟩)], .pointer (some ⟨w.heap.size, 0, none⟩), undef, .slice none 0 0, Value.int .i64 x, .func (.func 260) #[] #[.pointer (some ⟨Bs, 0, none⟩)], Value.int .i64 x, undef, undef, undef, undef, undef], defers := [] }) ?assign ?body ?done ?stop
  case assign =>
    intro l x W K hK
    gi_wp2
    exact hK
  case body =>
    rintro l pre x W ⟨⟨v, hv, hrow, hnil⟩, hB⟩ hlt
    have hc := hv.cell
    gi_wp2_with (gi_at_builtin; refine wpListIn_append_own _ rfl _ _ 22 rfl w.heap.size 3 i0 (.int .i64 0) 1 8 Tryz.underlying22 hi hz0 hz1 hz2 rfl (by decide) _ _ _ rfl (hrow.alloc _) ⟨W.heap.size, 0, none⟩ 1 1 [Value.int .i64 x] rfl rfl (cell_one_new _ _ _) (by simp [Value.oneCell']) (by unfold maxLen; omega) (by omega) (by have := hB.size; simp; omega) ?_; intro v' w1 hown' hgrow _; obtain ⟨g', cap', rfl⟩ := ownsRow_succ hown'; obtain ⟨hv1, hv2, hr2, hk2, hb2⟩ := hv.appended (by decide) hrow hB.size (Nat.le_refl _) hown' hgrow; have hc1 := hv1.cell; have hf1 := hv1.frozen)
    exact ⟨hk2.from _, hb2.mono hn₀, ⟨_, hv2, by simpa using hr2, by simp⟩, hB.trans hb2⟩
  case done =>
    rintro D ys W hD rfl ⟨⟨v, hv, hrow, hnil⟩, hB⟩ hK
    have hc := hv.cell
    gi_wp2
    refine ⟨by simp, .inl ⟨_, _, rfl, run_takeDeferred hK, ?_⟩⟩
    exact ⟨_, results_tmp rfl _ _ _, v, rfl, ownsRow_putObj hrow _ hK rfl, hB.trans (belowK_b (w := w) (Nat.le_refl _) W D _ _ (by simp at hD; omega) hK rfl rfl)⟩
  case stop =>
    rintro D c pre W _ _ h _
    exact h.elim

/-- slices.Collect over slices.Values: a slice of its own that holds the same. -/
theorem collectI_any (sv : Value) (zs : List Int) (hbytes : zs.length * 8 ≤ 140737488355328) (Bs : Nat) (w w0 : World) (hBs : Bs < w.heap.size) (hg : Grew w0 w) (hc : w.cell? ⟨Bs, 0, none⟩ = some sv) (hI : SlI w0 sv zs) :
    Calls Tryz.prog 259 #[.func (.func 260) #[] #[.pointer (some ⟨Bs, 0, none⟩)]] w fun e w' => ∃ v, e = .returned v ∧ w'.ownsRow w.heap.size 3 1 v zs.length (zs.map (Value.int .i64)) ∧ Grew w w' := by
  have hl : zs.length ≤ maxLen := by unfold maxLen; omega
  have ha := callsIn_wide.1 (appendSeqI_in Fence.wide 3 trivial trivial rfl (by omega) Bs w0.heap.size sv zs hl hbytes w w0 hBs hg.size rfl hg hc hI)
  have HA := Lib.hid ha
  clear ha
  go_enter Tryz.func259, Tryz.ntmps259
  go_wp2_with (first | (go_at_call 275; refine HA.out.mono ?_; rintro e w1 ⟨v, rfl, ho, hb⟩))
  go_ret
  exact ⟨v, rfl, ho, hb⟩

end Go.Proofs.YtjaknioojpgkiaaGreatDoor

/- slices.Sort and slices.Sorted at numbers. No condition but the sizes that a slice can have. -/
namespace Go.Proofs.YtjaknioojpgkiaaGreatDoor
open Go.RowKit Go.Sort

theorem grew_sortedI {w0 w1 : World} {blk off : Nat} (hb : w0.heap.size ≤ blk) (hg : Grew w0 w1) (d : Array Int) (n : Nat) (os : Array Obj) : Grew w0 (grow (putRow (Value.int .i64) (Sort.ahead w1 n) blk off d) os) := by
  refine ⟨hg.os, hg.tape, hg.output, ?_, fun k hk => ?_⟩
  · have := hg.size
    simp
    omega
  · have h1 := hg.size
    rw [heap_grow_old _ _ (by simp; omega)]
    have : (putRow (Value.int .i64) (Sort.ahead w1 n) blk off d).heap[k]? = w1.heap[k]? := by
      simp only [putRow, mapBlock, heap_ahead, Array.getElem?_modify]
      rw [if_neg (by omega)]
    rw [this]
    exact hg.block k hk
theorem flat_int (l : List Int) : l.flatMap oneI = l.map (Value.int .i64) := by
  induction l with
  | nil => rfl
  | cons x r ih => simp [List.flatMap_cons, oneI, ih]
theorem holdsI_of_own {w : World} {base : Nat} {e : TypeId} {g cap : Nat} {l : List Int} (h : w.ownsRow base e 1 (.slice (some ⟨g, 0, none⟩) l.length cap) l.length (l.flatMap oneI)) : Holds (Value.int .i64) w g 0 l.toArray := by
  intro j hj
  have hj' : j < l.length := by simpa using hj
  refine ⟨?_, by rw [Nat.zero_add]; exact h.frozenAt j⟩
  rw [Nat.zero_add, h.cellAt j (by omega), flat_int]
  simp [hj']
theorem slI_of_holds {w : World} {g cap : Nat} {d : List Int} (h : Holds (Value.int .i64) w g 0 d.toArray) (hg : g < w.heap.size) (h1 : d.length ≤ cap) (h2 : cap ≤ maxLen) : SlI w (.slice (some ⟨g, 0, none⟩) d.length cap) d := by
  refine ⟨some ⟨g, 0, none⟩, d.length, cap, rfl, flatMap_len oneI 1 (fun _ => rfl) d, h1, h2, fun _ => ⟨g, 0, rfl, hg, fun j u hu => ?_⟩⟩
  rw [flat_int, List.getElem?_map] at hu
  have hj : j < d.length := by
    rcases Nat.lt_or_ge j d.length with hlt | hge
    · exact hlt
    · rw [List.getElem?_eq_none hge] at hu; cases hu
  rw [List.getElem?_eq_getElem hj] at hu
  simp only [Option.map_some, Option.some.injEq] at hu
  have := (h j (by simpa using hj)).1
  rw [this, ← hu]
  simp [hj]
/-- slices.Sort on a row of the call's own. -/
theorem sort_own (l : List Int) (w0 : World) (e : TypeId) (v : Value) (w : World) (hown : w.ownsRow w0.heap.size e 1 v l.length (l.flatMap oneI)) (hg : Grew w0 w) (hl : l.length ≤ 1000000) :
    Calls Tryz.prog 72 #[v] w fun en w' => en = .returned (.tuple #[]) ∧ SlI w' v (sortI l) ∧ Grew w0 w' := by
  rcases Nat.eq_zero_or_pos l.length with h0 | h0
  · obtain rfl : l = [] := List.eq_nil_of_length_eq_zero h0
    have hv : ∃ A c, v = .slice A 0 c := by
      rcases hown.2 with ⟨rfl, _⟩ | ⟨g, cap, cur, rfl, _⟩
      · exact ⟨_, _, rfl⟩
      · exact ⟨_, _, rfl⟩
    obtain ⟨A, c, rfl⟩ := hv
    refine (Tryz.slices_Sort_int_none A c w).mono ?_
    rintro en w' ⟨rfl, rfl⟩
    refine ⟨rfl, ?_, hg⟩
    rw [show sortI [] = [] by simp [sortI]]
    exact Rd.of_own hown
  · obtain ⟨g, cap, rfl, hbg, hlt, hcap⟩ := own_form hown h0
    have hH := holdsI_of_own hown
    refine (Tryz.slices_Sort_int g 0 cap l w hH hlt (by omega)).mono ?_
    rintro en w' ⟨rfl, n, os, rfl⟩
    have hl2 : (sortI l).length = l.length := (List.mergeSort_perm l _).length_eq
    have hh2 : Holds (Value.int .i64) (grow (putRow (Value.int .i64) (Sort.ahead w n) g 0 (sortI l).toArray) os) g 0 (sortI l).toArray :=
      holds_grow _ _ _ _ _ _ (by simpa using hlt) (holds_putRow _ _ _ _ _ _ (holds_ahead _ _ _ _ _ _ hH) (by simp [hl2]))
    refine ⟨rfl, ?_, grew_sortedI hbg hg _ _ _⟩
    have := slI_of_holds hh2 (by simp; omega) (by rw [hl2]; exact hcap) (own_max hown)
    rw [hl2] at this
    exact this
/-- slices.Sorted over slices.Values. -/
theorem sortedI_any (sv : Value) (zs : List Int) (hz : zs.length ≤ 1000000) (Bs : Nat) (w w0 : World) (hBs : Bs < w.heap.size) (hg : Grew w0 w) (hc : w.cell? ⟨Bs, 0, none⟩ = some sv) (hI : SlI w0 sv zs) :
    Calls Tryz.prog 227 #[.func (.func 260) #[] #[.pointer (some ⟨Bs, 0, none⟩)]] w fun e w' => ∃ v, e = .returned v ∧ SlI w' v (sortI zs) ∧ Grew w w' := by
  have hco := Lib.hid (collectI_any sv zs (by omega) Bs w w0 hBs hg hc hI)
  clear hc hI hg hBs
  go_enter Tryz.func227, Tryz.ntmps227
  go_wp2_with fail
  refine hco.out.mono ?_
  rintro e w1 ⟨v, rfl, ho, hb⟩
  rw [← flat_int] at ho
  have HS := Lib.hid (sort_own zs w _ v w1 ho hb hz)
  clear ho
  dsimp only
  go_wp2_with fail
  refine HS.out.mono ?_
  rintro e w2 ⟨rfl, hs2, g2⟩
  have HS2 := Lib.hid hs2
  clear hs2
  dsimp only
  go_wp2
  go_ret
  exact ⟨_, rfl, HS2.out, g2⟩
end Go.Proofs.YtjaknioojpgkiaaGreatDoor

/- slices.Index, Contains at numbers; slices.Clone at numbers and relations. No condition but the sizes that a slice can have. -/
namespace Go.Proofs.YtjaknioojpgkiaaGreatDoor
open Go.RowKit

set_option maxHeartbeats 1000000 in
/-- slices.Index at Int. -/
theorem indexI (l : List Int) (x : Int) (v : Value) (w : World) (hv : SlI w v l) :
    Calls Tryz.prog 105 #[v, .int .i64 x] w fun e w' => e = .returned (.int .i64 (idxP (fun y => (x == y)) l)) ∧ w = w' := by
  obtain ⟨A, c, rfl, hlc, hc, hr⟩ := hv.open_
  unfold maxLen at hc
  have HR := Lib.hid hr
  clear hr hv
  generalize hp : (fun y : Int => (x == y)) = p
  have HP := Lib.hid hp
  clear hp
  go_enter Tryz.func105, Tryz.ntmps105
  go_wp2
  go_loop [5, 8] (fun _ s8 => ∃ kk : Nat, kk ≤ l.length ∧ s8 = .int .i64 kk ∧ Aside (∀ i (hi : i < l.length), i < kk → p l[i] = false)) (fun _ i => l.length - (intOf i).toNat)
  case atStart => exact ⟨0, Nat.zero_le _, rfl, fun i hi h => absurd h (Nat.not_lt_zero _)⟩
  case round =>
    obtain ⟨kk, hkk, rfl, M⟩ := hrel
    by_cases hlt : kk < l.length
    · obtain ⟨b, off, rfl, hb, hcell⟩ := HR.out (by omega)
      have c0 := hcell w (Grew.refl w) kk hlt
      clear hcell
      have hq0 : p l[kk] = (x == l[kk]) := by rw [← HP.out]
      generalize hy : l[kk] = y at c0 hq0
      have B : Aside (l[kk] = y) := hy
      clear hy
      cases hq : p y with
      | true =>
        rw [hq] at hq0
        have hq1 := hq0.symm
        have Hq : Aside (p y = true) := hq
        clear hq0 hq
        go_wp2
        go_ret
        refine ⟨?_, rfl⟩
        rw [idxP_hit p l kk hlt (by rw [B.out]; exact Hq.out) M.out]
        rfl
      | false =>
        rw [hq] at hq0
        have hq1 := hq0.symm
        have Hq : Aside (p y = false) := hq
        clear hq0 hq
        go_wp2
        go_round
        case measure => simp [intOf]; omega
        case rel =>
          refine ⟨kk + 1, by omega, by go_num, (show Aside _ from fun i hi h => ?_)⟩
          by_cases e : i = kk
          · subst e
            rw [B.out]; exact Hq.out
          · exact M.out i hi (by omega)
    · go_wp2
      go_ret
      refine ⟨?_, rfl⟩
      rw [idxP_miss p l (fun i hi => M.out i hi (by omega))]
      rfl
theorem containsI (l : List Int) (x : Int) (v : Value) (w : World) (hv : SlI w v l) :
    Calls Tryz.prog 43 #[v, .int .i64 x] w fun e w' => e = .returned (.bool (l.any fun y => (x == y))) ∧ w = w' := by
  have hi := Lib.hid (indexI l x v w hv)
  have hd := idxP_any (fun y => (x == y)) l
  generalize idxP (fun y => (x == y)) l = i at hi hd
  have Hd := Lib.hid hd
  clear hv hd
  go_enter Tryz.func43, Tryz.ntmps43
  go_wp2_with (first | (go_at_call 105; refine hi.out.mono ?_; rintro e w1 ⟨rfl, rfl⟩))
  go_ret
  exact ⟨ret_bool Hd.out, rfl⟩

theorem cinfoI : (Tryz.prog.info? 3).map (fun i => (i.zero, i.size, i.bytes)) = some (some (.int .i64 0), 1, 8) := by kernel_rfl
theorem one_cellsI (l : List Int) : ∀ u ∈ l.flatMap oneI, u.oneCell' = true := by
  intro u hu
  rw [List.mem_flatMap] at hu
  obtain ⟨x, _, hx⟩ := hu
  simp [oneI] at hx
  rcases hx with rfl <;> rfl
end Go.Proofs.YtjaknioojpgkiaaGreatDoor

/- slices.Equal at numbers. No condition. -/
namespace Go.Proofs.YtjaknioojpgkiaaGreatDoor
open Go.RowKit

set_option maxHeartbeats 2000000 in
/-- slices.Equal at Int. -/
theorem equalI (l m : List Int) (v u : Value) (w : World) (hv : SlI w v l) (hu : SlI w u m) :
    Calls Tryz.prog 26 #[v, u] w fun e w' => e = .returned (.bool (decide (l = m))) ∧ Grew w w' := by
  obtain ⟨A, c, rfl, hlc, hc, hr⟩ := hv.open_
  obtain ⟨A', c', rfl, hlc', hc', hr'⟩ := hu.open_
  unfold maxLen at hc hc'
  have HR := Lib.hid hr
  have HR' := Lib.hid hr'
  clear hr hr' hv hu
  by_cases hl : l.length = m.length
  case neg =>
    have hd : decide (l = m) = false := by rw [decide_eq_false_iff_not]; exact fun h => hl (by rw [h])
    rw [hd]
    have hne : ((l.length : Int) != (m.length : Int)) = true := by rw [bne_iff_ne]; omega
    clear hl hd
    go_enter Tryz.func26, Tryz.ntmps26
    go_wp2
    go_ret
    exact ⟨rfl, Grew.refl w⟩
  have hne : ((l.length : Int) != (m.length : Int)) = false := by rw [bne_eq_false_iff_eq]; omega
  generalize hD : decide (l = m) = D
  have HD := Lib.hid hD
  have HL := Lib.hid hl
  clear hD hl
  go_enter Tryz.func26, Tryz.ntmps26
  go_wp2
  go_loopg [5, 13] l.length (fun gg _ s wr => ∃ kk : Nat, kk ≤ l.length ∧ l.length - kk ≤ gg ∧ s = .int .i64 kk ∧ Aside (Grew w wr) ∧ Aside (l.take kk = m.take kk))
  case atStart => exact ⟨0, Nat.zero_le _, by omega, rfl, Grew.refl w, rfl⟩
  case round =>
    obtain ⟨kk, hkk, hg, rfl, BW, M⟩ := hrel
    by_cases hlt : kk < l.length
    · have hlt2 : kk < m.length := by have := HL.out; omega
      have hltz : (kk : Int) < (l.length : Int) := by omega
      have hltz2 : (kk : Int) < (m.length : Int) := by omega
      obtain ⟨b, off, rfl, hb, hcell⟩ := HR.out (by omega)
      obtain ⟨b', off', rfl, hb', hcell'⟩ := HR'.out (by omega)
      obtain c0 := hcell wr BW.out kk hlt
      obtain d0 := hcell' wr BW.out kk hlt2
      clear hcell hcell'
      have Hstep : RowKit.Hid (l[kk] = m[kk] → l.take (kk + 1) = m.take (kk + 1)) := fun h => by rw [List.take_succ_eq_append_getElem hlt, List.take_succ_eq_append_getElem hlt2, M.out, h]
      have Hbad : RowKit.Hid (l[kk] ≠ m[kk] → D = false) := fun h => by
        rw [← HD.out, decide_eq_false_iff_not]
        exact fun e => h (by simp [e])
      generalize l[kk] = x at c0 Hstep Hbad
      generalize m[kk] = y at d0 Hstep Hbad
      by_cases hxy : x = y
      · have Hs := Lib.hid (Hstep.out hxy)
        have hq1 : (x == y) = true := by rw [hxy]; simp
        clear hxy Hstep Hbad
        go_wp2
        go_quiet (fail)
        go_wp2
        go_roundg (l.length - (kk + 1))
        case measure => omega
        case rel => exact ⟨kk + 1, by omega, by omega, by go_num, (show Aside _ from BW.out.drewN _), (show Aside _ from Hs.out)⟩
      · have Hs := Lib.hid (Hbad.out hxy)
        have hq1 : (x == y) = false := by simpa using hxy
        clear hxy Hstep Hbad
        go_wp2
        go_quiet (fail)
        go_wp2
        go_ret
        exact ⟨ret_bool Hs.out.symm, BW.out.drewN _⟩
    · have hltz : ¬ (kk : Int) < (l.length : Int) := by omega
      have Hs : RowKit.Hid (D = true) := by
        have h := M.out
        rw [List.take_of_length_le (by omega), List.take_of_length_le (by have := HL.out; omega)] at h
        show D = true
        rw [← HD.out, decide_eq_true_iff]
        exact h
      go_wp2
      go_ret
      exact ⟨ret_bool Hs.out.symm, BW.out⟩

end Go.Proofs.YtjaknioojpgkiaaGreatDoor

/- append to a row of the call's own. No condition but the sizes that a slice can have. -/
namespace Go.Proofs.YtjaknioojpgkiaaGreatDoor
open Go.RowKit

/-- append(v, x): x lies in the block that was made last. -/
theorem app1 {P : Program} {ops : Array Oper} {rest : List Oper} {o : Oper} {a : Act} {Q : Exit → Act → World → Prop} (hgd : o.guard = none) (s x : Operand) (t : TypeId)
    (ho : o.op = .call { callee := .builtin .append, args := #[s, x], argTypes := #[t, t] })
    (w0 : World) (e : TypeId) (i : TypeInfo) (z : Value) (size bytes : Nat) (ht : P.underlying t = some (.slice e)) (hi : P.info? e = some i) (hz : i.zero = some z)
    (hsize : i.size = size) (hby : i.bytes = bytes) (hzs : z.cells.size = size) (hsz : 0 < size)
    (v : Value) (n : Nat) (xs : List Value) (hs : a.eval s = v) (wr : World) (hown : wr.ownsRow w0.heap.size e size v n xs) (hg : Grew w0 wr)
    (cs : List Value) (hx : a.eval x = .slice (some ⟨wr.heap.size, 0, none⟩) 1 1) (hl : cs.length = size) (h1 : cs.all (·.oneCell') = true)
    (h63 : n + 1 ≤ maxLen) (hbytes : (n + 1) * bytes ≤ 140737488355328)
    (h : ∀ v' w', w'.ownsRow w0.heap.size e size v' (n + 1) (xs ++ cs) → Grew w0 w' → wpList P ops Q rest (a.put o.dst v') w') : wpList P ops Q (o :: rest) a (wr.alloc (.cells cs.toArray e)) := by
  refine wpList_append_own _ hgd s x t ho w0.heap.size e i z size bytes ht hi hz hsize hby hzs hsz v n xs hs (hown.alloc _) ⟨wr.heap.size, 0, none⟩ 1 1 cs hx (by omega) ?_ ?_ h63 hbytes ?_ ?_
  · intro j u hu
    have hlast : (wr.alloc (.cells cs.toArray e)).heap[wr.heap.size]? = some (.cells cs.toArray e) := heap_alloc_last wr _
    rw [add_lit, Nat.zero_add, cell_of_row _ _ _ _ _ _ hlast]
    simpa using hu
  · exact fun u hu => List.all_eq_true.1 h1 u hu
  · have := hg.size
    simp
    omega
  · intro v' w' h2 h3 _
    refine h v' w' h2 ?_
    refine Below.grown (hg.alloc _) h3 (by have := hg.size; simp; omega) (fun k hk => ?_)
    exact (hown.lt k hk).1

end Go.Proofs.YtjaknioojpgkiaaGreatDoor

/- append of a slice, nil let in, to a row of the call's own. No condition but the sizes that a slice can have. -/
namespace Go.Proofs.YtjaknioojpgkiaaGreatDoor
open Go.RowKit

theorem run_append_none {P : Program} (w : World) (base : Nat) (t ty e : TypeId) (i : TypeInfo) (size : Nat) (ht : P.underlying t = some (.slice e)) (hi : P.info? e = some i) (v : Value) (n : Nat) (xs : List Value) (hown : w.ownsRow base e size v n xs) (c : Nat) :
    (Builtin.append_ #[t, t] ty #[v, .slice none 0 c]).run P w = .ok v w := by
  rcases hown.2 with ⟨rfl, rfl⟩ | ⟨g, cap, cur, rfl, _, _, hle, _⟩
  · simp [Builtin.append_, run_underlying ht, sizeOf, typeInfo, hi, Builtin.lenOf, Builtin.firstCells]
  · simp [Builtin.append_, run_underlying ht, sizeOf, typeInfo, hi, Builtin.lenOf, Builtin.firstCells, hle, storeCells]
/-- append(v, u...), at one operation. -/
theorem wpR {P : Program} {o : Oper} {a : Act} {K : Act → World → Prop} {Q : Exit → Act → World → Prop} (s x : Operand) (t : TypeId)
    (ho : o.op = .call { callee := .builtin .append, args := #[s, x], argTypes := #[t, t] })
    (w0 : World) (e : TypeId) (i : TypeInfo) (z : Value) (size bytes : Nat) (ht : P.underlying t = some (.slice e)) (hi : P.info? e = some i) (hz : i.zero = some z)
    (hsize : i.size = size) (hby : i.bytes = bytes) (hzs : z.cells.size = size) (hsz : 0 < size)
    (v : Value) (n : Nat) (xs : List Value) (hs : a.eval s = v) (wr : World) (hown : wr.ownsRow w0.heap.size e size v n xs) (hg : Grew w0 wr)
    (u : Value) (m : Nat) (cs : List Value) (hx : a.eval x = u) (hu : Rd wr size u cs) (hl : cs.length = m * size) (h1 : ∀ u ∈ cs, u.oneCell' = true)
    (h63 : n + m ≤ maxLen) (hbytes : (n + m) * bytes ≤ 140737488355328)
    (h : ∀ v' w', w'.ownsRow w0.heap.size e size v' (n + m) (xs ++ cs) → Grew w0 w' → (∀ p x, wr.cell? p = some x → some p.block ≠ v.ownBlock → w'.cell? p = some x) → K (a.put o.dst v') w') : o.wp P a wr K Q := by
  obtain ⟨A, m', c, rfl, hl', hmc, _, hr⟩ := hu
  obtain rfl : m' = m := Nat.eq_of_mul_eq_mul_right hsz (hl'.symm.trans hl)
  cases A with
  | none =>
    have hm0 : m' = 0 := by
      rcases Nat.eq_zero_or_pos m' with h0 | h0
      · exact h0
      · obtain ⟨b, off, hA, _⟩ := hr h0
        cases hA
    subst hm0
    have hcs : cs = [] := List.eq_nil_of_length_eq_zero (by omega)
    subst hcs
    have hrun := run_append_none wr w0.heap.size t o.type e i size ht hi v n xs hown c
    unfold Oper.wp execOp
    simp only [ho, resolve, invoke, builtin, Sem.run_bind, Sem.run_pure, Result.andThen_ok, List.map_toArray, List.map_cons, List.map_nil, hs, hx, hrun]
    exact h v wr (by simpa using hown) hg (fun p x hp _ => hp)
  | some ad =>
    refine wp_append_own wr s x t ho w0.heap.size e i z size bytes ht hi hz hsize hby hzs hsz v n xs hs hown ad m' c cs hx hl ?_ h1 h63 hbytes hg.size ?_
    · intro j u hu
      have hj := (List.getElem?_eq_some_iff.1 hu).1
      have h0 : 0 < m' := by
        rcases Nat.eq_zero_or_pos m' with h0 | h0
        · subst h0; omega
        · exact h0
      obtain ⟨b, off, hA, _, hcell⟩ := hr h0
      cases hA
      rw [add_lit]
      exact hcell j u hu
    · intro v' w' h2 h3 _
      exact h v' w' h2 (Below.grown hg h3 hg.size (fun k hk => (hown.lt k hk).1)) (fun p x hp hne => h3.cell hp hne)
theorem appR {P : Program} {ops : Array Oper} {rest : List Oper} {o : Oper} {a : Act} {Q : Exit → Act → World → Prop} (hgd : o.guard = none) (s x : Operand) (t : TypeId)
    (ho : o.op = .call { callee := .builtin .append, args := #[s, x], argTypes := #[t, t] })
    (w0 : World) (e : TypeId) (i : TypeInfo) (z : Value) (size bytes : Nat) (ht : P.underlying t = some (.slice e)) (hi : P.info? e = some i) (hz : i.zero = some z)
    (hsize : i.size = size) (hby : i.bytes = bytes) (hzs : z.cells.size = size) (hsz : 0 < size)
    (v : Value) (n : Nat) (xs : List Value) (hs : a.eval s = v) (wr : World) (hown : wr.ownsRow w0.heap.size e size v n xs) (hg : Grew w0 wr)
    (u : Value) (m : Nat) (cs : List Value) (hx : a.eval x = u) (hu : Rd wr size u cs) (hl : cs.length = m * size) (h1 : ∀ u ∈ cs, u.oneCell' = true)
    (h63 : n + m ≤ maxLen) (hbytes : (n + m) * bytes ≤ 140737488355328)
    (h : ∀ v' w', w'.ownsRow w0.heap.size e size v' (n + m) (xs ++ cs) → Grew w0 w' → (∀ p x, wr.cell? p = some x → some p.block ≠ v.ownBlock → w'.cell? p = some x) → wpList P ops Q rest (a.put o.dst v') w') : wpList P ops Q (o :: rest) a wr :=
  wpList_plain hgd fun _ hK => wpR s x t ho w0 e i z size bytes ht hi hz hsize hby hzs hsz v n xs hs wr hown hg u m cs hx hu hl h1 h63 hbytes fun v' w' h2 h3 h4 => hK _ _ (h v' w' h2 h3 h4)
theorem stepR {P : Program} {ops : Array Oper} {o : Oper} {a : Act} {K : Act → World → Prop} {Q : Exit → Act → World → Prop} {E : Prop} (hgd : o.guard = none) (s x : Operand) (t : TypeId)
    (ho : o.op = .call { callee := .builtin .append, args := #[s, x], argTypes := #[t, t] })
    (w0 : World) (e : TypeId) (i : TypeInfo) (z : Value) (size bytes : Nat) (ht : P.underlying t = some (.slice e)) (hi : P.info? e = some i) (hz : i.zero = some z)
    (hsize : i.size = size) (hby : i.bytes = bytes) (hzs : z.cells.size = size) (hsz : 0 < size)
    (v : Value) (n : Nat) (xs : List Value) (hs : a.eval s = v) (wr : World) (hown : wr.ownsRow w0.heap.size e size v n xs) (hg : Grew w0 wr)
    (u : Value) (m : Nat) (cs : List Value) (hx : a.eval x = u) (hu : Rd wr size u cs) (hl : cs.length = m * size) (h1 : ∀ u ∈ cs, u.oneCell' = true)
    (h63 : n + m ≤ maxLen) (hbytes : (n + m) * bytes ≤ 140737488355328)
    (h : ∀ v' w', w'.ownsRow w0.heap.size e size v' (n + m) (xs ++ cs) → Grew w0 w' → (∀ p x, wr.cell? p = some x → some p.block ≠ v.ownBlock → w'.cell? p = some x) → K (a.put o.dst v') w') : if Region.wanted o (yielded ops a.tmps) = true then Oper.wp P o a wr K Q else E := by
  have hw : Region.wanted o (yielded ops a.tmps) = true := by simp [Region.wanted, hgd]
  rw [if_pos hw]
  exact wpR s x t ho w0 e i z size bytes ht hi hz hsize hby hzs hsz v n xs hs wr hown hg u m cs hx hu hl h1 h63 hbytes h
/-- append(v, x), the block of x under a name. -/
theorem app1H {P : Program} {ops : Array Oper} {rest : List Oper} {o : Oper} {a : Act} {Q : Exit → Act → World → Prop} (hgd : o.guard = none) (s x : Operand) (t : TypeId)
    (ho : o.op = .call { callee := .builtin .append, args := #[s, x], argTypes := #[t, t] })
    (w0 : World) (e : TypeId) (i : TypeInfo) (z : Value) (size bytes : Nat) (ht : P.underlying t = some (.slice e)) (hi : P.info? e = some i) (hz : i.zero = some z)
    (hsize : i.size = size) (hby : i.bytes = bytes) (hzs : z.cells.size = size) (hsz : 0 < size)
    (v : Value) (n : Nat) (xs : List Value) (hs : a.eval s = v) (wr : World) (hown : wr.ownsRow w0.heap.size e size v n xs) (hg : Grew w0 wr) (H : Nat) (hH : wr.heap.size = H)
    (cs : List Value) (hx : a.eval x = .slice (some ⟨H, 0, none⟩) 1 1) (hl : cs.length = size) (h1 : cs.all (·.oneCell') = true)
    (h63 : n + 1 ≤ maxLen) (hbytes : (n + 1) * bytes ≤ 140737488355328)
    (h : ∀ v' w', w'.ownsRow w0.heap.size e size v' (n + 1) (xs ++ cs) → Grew w0 w' → wpList P ops Q rest (a.put o.dst v') w') : wpList P ops Q (o :: rest) a (wr.alloc (.cells cs.toArray e)) := by
  subst hH
  exact app1 hgd s x t ho w0 e i z size bytes ht hi hz hsize hby hzs hsz v n xs hs wr hown hg cs hx hl h1 h63 hbytes h
end Go.Proofs.YtjaknioojpgkiaaGreatDoor

/- tree: just, the check of the children, walked. The condition: the lists are short. -/
namespace Go.Proofs.YtjaknioojpgkiaaGreatDoor
open Go.RowKit

theorem take_kids (l : List Br) (id : Int) (k : Nat) (hk : k < l.length) : kidsOf (l.take (k + 1)) id = kidsOf (l.take k) id ++ (if l[k].parent == id then [l[k].id] else []) := by
  unfold kidsOf
  rw [List.take_succ_eq_append_getElem hk, List.filter_append, List.map_append]
  congr 1
  by_cases h : (l[k].parent == id) = true
  · simp [h]
  · simp [h]
theorem kids_len (l : List Br) (id : Int) (k : Nat) : (kidsOf (l.take k) id).length ≤ l.length := by
  unfold kidsOf
  rw [List.length_map]
  exact Nat.le_trans (List.length_filter_le _ _) (by rw [List.length_take]; omega)
set_option maxRecDepth 100000 in
set_option maxHeartbeats 4000000 in
theorem tJust (l : List Br) (id : Int) (ks : List Int) (rv bv kv : Value) (w : World) (hv : SlBr w bv l) (hk : SlI w kv ks) (hl : l.length ≤ 1000000) (hkl : ks.length ≤ 1000000) :
    Calls Tryz.prog 185 #[.agg #[rv, bv], .int .i64 id, kv] w fun e w' => e = .returned (.bool (decide (sortI ks = kidsOf l id))) ∧ Grew w w' := by
  have HK := Lib.hid hk
  obtain ⟨A, c, rfl, hlc, hc, hr⟩ := hv.open_
  have HR := Lib.hid hr
  obtain ⟨Ak, ck, rfl, -, -, -⟩ := hk.open_
  obtain ⟨i0, hi, hz0, hz1, hz2⟩ := info_parts cinfoI
  clear hv hr hk hc hlc
  generalize hD : decide (sortI ks = kidsOf l id) = D
  have HD := Lib.hid hD
  clear hD
  go_enter Tryz.func185, Tryz.ntmps185
  go_wp2
  go_loopg [7, 13] l.length (fun gg s7 s13 wr => ∃ k : Nat, k ≤ l.length ∧ l.length - k ≤ gg ∧ s13 = .int .i64 k ∧ Aside (wr.ownsRow w.heap.size 3 1 s7 (kidsOf (l.take k) id).length ((kidsOf (l.take k) id).flatMap oneI)) ∧ Aside (Grew w wr))
  case atStart => exact ⟨0, by omega, by omega, rfl, (show Aside _ from World.ownsRow_nil _ _ _ _), (show Aside _ from (Grew.refl w).alloc _)⟩
  case round =>
    obtain ⟨k, hkk, hgk, rfl, OW, BW⟩ := hrel
    by_cases hlt : k < l.length
    case neg =>
      have hltz : ¬ (k : Int) < (l.length : Int) := by omega
      have hT : l.take k = l := List.take_of_length_le (by omega)
      have HS := Lib.hid (show SlI wr _ (kidsOf (l.take k) id) from Rd.of_own OW.out)
      rw [hT] at HS
      clear hT OW
      go_wp2_with fail
      refine (valuesI_any Ak ks.length ck wr).mono ?_
      rintro e w1 ⟨rfl, hw1⟩
      have hg1 : Grew wr w1 := by rw [← hw1]; exact (Grew.refl wr).alloc _
      have hc1 : w1.cell? ⟨wr.heap.size, 0, none⟩ = some (.slice Ak ks.length ck) := by rw [← hw1]; simp
      have KS := Lib.hid (sortedI_any (.slice Ak ks.length ck) ks hkl wr.heap.size w1 w (World.block_lt_of_cell? w1 _ hc1) (BW.out.trans hg1) hc1 HK.out)
      have HS1 := Lib.hid (HS.out.mono hg1)
      have HW1 := Lib.hid (BW.out.trans hg1)
      clear hw1 hg1 hc1 HS
      dsimp only
      go_wp2_with fail
      refine KS.out.mono ?_
      rintro e w2 ⟨v2, rfl, hs2, g2⟩
      have HS2 := Lib.hid hs2
      have HS12 := Lib.hid (HS1.out.mono g2)
      have HW2 := Lib.hid (HW1.out.trans g2)
      clear hs2 g2 KS HS1
      dsimp only
      go_wp2_with fail
      refine (equalI _ _ _ _ _ HS2.out HS12.out).mono ?_
      rintro e w3 ⟨rfl, g3⟩
      rw [HD.out]
      dsimp only
      go_wp2
      go_ret
      exact ⟨rfl, HW2.out.trans g3⟩
    have hltz : (k : Int) < (l.length : Int) := by omega
    have h0z : (0 : Int) ≤ (k : Int) := by omega
    obtain ⟨b, off, rfl, hb, hcell⟩ := HR.out (by omega)
    obtain ⟨kvv, hkv, hcl⟩ := hcell k hlt
    obtain ⟨c0, c1, c2, c3, c4, c5⟩ := hcl wr BW.out
    have HT := Lib.hid (take_kids l id k hlt)
    have hlen := kids_len l id k
    obtain ⟨Az, cz, rfl, -, -, -⟩ := hkv.open_
    clear hcell hcl hkv
    generalize l[k] = y at c0 c1 c2 c3 c4 c5 HT
    obtain ⟨yi, yp, yl, yt, ym, yk⟩ := y
    dsimp only at c0 c1 c2 c3 c4 c5 HT
    cases a1 : (yp == id) with
    | false =>
      rw [a1] at HT
      go_wp2
      go_roundg (l.length - (k + 1))
      case measure => omega
      case rel =>
        refine ⟨k + 1, by omega, by omega, by go_num, ?_, (show Aside _ from BW.out.alloc _)⟩
        have := HT.out
        simp only [Bool.false_eq_true, if_false, List.append_nil] at this
        rw [this]
        exact (show Aside _ from OW.out.alloc _)
    | true =>
      rw [a1] at HT
      go_wp2_with (at_builtin; refine app1H rfl _ _ 22 rfl w 3 i0 (.int .i64 0) 1 8 Tryz.underlying22 hi hz0 hz1 hz2 rfl (by omega) _ _ _ (by rfl) (wr.alloc (.cells #[.int .i64 yi, .int .i64 yp, .int .i64 yl, .string yt, .string ym, .slice Az yk.length cz] 56)) (OW.out.alloc _) (BW.out.alloc _) (wr.heap.size + 1) (by simp) [.int .i64 yi] (by rfl) rfl rfl (by unfold maxLen; omega) (by omega) ?_; intro v8 w8 hown8 hg8)
      have OW8 : Aside _ := hown8
      have BW8 : Aside _ := hg8
      clear hown8 hg8
      go_wp2
      go_roundg (l.length - (k + 1))
      case measure => omega
      case rel =>
        refine ⟨k + 1, by omega, by omega, by go_num, ?_, BW8⟩
        have := HT.out
        simp only [if_true] at this
        rw [this, List.flatMap_append, List.length_append]
        exact OW8
end Go.Proofs.YtjaknioojpgkiaaGreatDoor

/- Regions that draw their order, whose last operation waits for all others and may do whatever it does (a store): the others are walked once, in every world that grew out of one. No condition. -/
namespace Go.Proofs.YtjaknioojpgkiaaGreatDoor
open Go.RowKit

section
variable {P : Program} {md : Region.Mode} {ops ops' : Array Oper} {C : World → Prop}
/-- The last operation of ops waits for all others; ops' has a blank in its place. -/
structure LastOp (md : Region.Mode) (ops ops' : Array Oper) (n : Nat) (o : Oper) : Prop where
  size : ops.size = n + 1
  size' : ops'.size = n + 1
  same : ∀ i : Nat, i < n → ops'[i]? = ops[i]?
  here : ops[n]? = some o
  guard : o.guard = none
  blank : ∃ o', ops'[n]? = some o' ∧ o'.dst = none ∧ o'.guard = none ∧ o'.after = o.after ∧ o.dst = none
  waits : ∀ i : Nat, i < n → ∃ e ∈ o.after, Region.binds md e = true ∧ e.on = i
  low : ∀ (j : Nat) (oj : Oper), ops[j]? = some oj → ∀ e ∈ oj.after, e.on < j
variable {n : Nat} {o : Oper}
theorem LastOp.get (L : LastOp md ops ops' n o) (i : Nat) : (ops'[i]?).map Oper.after = (ops[i]?).map Oper.after ∧ (ops'[i]?).bind Oper.dst = (ops[i]?).bind Oper.dst := by
  rcases Nat.lt_trichotomy i n with h | h | h
  · rw [L.same i h]; exact ⟨rfl, rfl⟩
  · subst h
    obtain ⟨o', h1, h2, _, h4, h5⟩ := L.blank
    rw [h1, L.here]
    simp [h2, h4, h5]
  · rw [Array.getElem?_eq_none (by have := L.size; have := L.size'; omega), Array.getElem?_eq_none (by have := L.size; have := L.size'; omega)]
    exact ⟨rfl, rfl⟩
theorem LastOp.ready (L : LastOp md ops ops' n o) (listed : Array Bool) : Region.ready md ops' listed = Region.ready md ops listed := by
  unfold Region.ready
  rw [L.size, L.size']
  refine List.filter_congr fun i _ => ?_
  have := (L.get i).1
  cases h1 : ops[i]? <;> cases h2 : ops'[i]? <;> rw [h1, h2] at this <;> simp at this ⊢
  rw [this]
theorem LastOp.yielded (L : LastOp md ops ops' n o) : Go.yielded ops' = Go.yielded ops := by
  funext tmps j
  unfold Go.yielded
  rw [(L.get j).2]
theorem LastOp.some_ready (L : LastOp md ops ops' n o) (listed : Array Bool) (hs : listed.size = n + 1) : ∀ i, i ≤ n → listed.getD i true = false → Region.ready md ops listed ≠ [] := by
  intro i
  induction i using Nat.strongRecOn with
  | _ i ih =>
    intro hi hun h0
    obtain ⟨oi, hoi⟩ : ∃ oi, ops[i]? = some oi := ⟨_, Array.getElem?_eq_getElem (by have := L.size; omega)⟩
    by_cases hall : ∀ e ∈ oi.after, Region.binds md e = true → listed.getD e.on false = true
    · have : i ∈ Region.ready md ops listed := mem_ready.2 ⟨hun, oi, hoi, hall⟩
      rw [h0] at this
      cases this
    · have : ∃ e ∈ oi.after, listed.getD e.on false ≠ true := Classical.byContradiction fun hn => hall fun e he _ => Classical.byContradiction fun h => hn ⟨e, he, h⟩
      obtain ⟨e, he, hne⟩ := this
      have hlt := L.low i oi hoi e he
      have hin : e.on < listed.size := by omega
      refine ih e.on hlt (by omega) ?_ h0
      simp only [Bool.not_eq_true] at hne
      rw [Array.getD_eq_getD_getElem?, Array.getElem?_eq_getElem hin] at hne ⊢
      simpa using hne
theorem LastOp.none_ready (L : LastOp md ops ops' n o) (listed : Array Bool) (hs : listed.size = n + 1) (hn : n ∈ Region.ready md ops listed) : Region.ready md ops (listed.setIfInBounds n true) = [] := by
  rw [List.eq_nil_iff_forall_not_mem]
  intro i hi
  obtain ⟨hun, oi, hoi, _⟩ := mem_ready.1 hi
  have hlt : i < ops.size := (Array.getElem?_eq_some_iff.1 hoi).1
  have := L.size
  by_cases h : i = n
  · subst h
    rw [Array.getD_eq_getD_getElem?, Array.getElem?_setIfInBounds_self_of_lt (by omega)] at hun
    cases hun
  · rw [getD_set_ne true (fun e => h e.symm)] at hun
    obtain ⟨_, on, hon, hall⟩ := mem_ready.1 hn
    have : on = o := Option.some.inj (hon.symm.trans L.here)
    subst this
    obtain ⟨e, he, hb, hei⟩ := L.waits i (by omega)
    have h2 := hall e he hb
    rw [hei, Array.getD_eq_getD_getElem?, Array.getElem?_eq_getElem (by omega)] at h2
    rw [Array.getD_eq_getD_getElem?, Array.getElem?_eq_getElem (by omega)] at hun
    simp at h2 hun
    rw [h2] at hun
    cases hun
theorem last_step (L : LastOp md ops ops' n o) {Q : Act → Prop} {Q' : Exit → Act → World → Prop} (hQ : ∀ a w, C w → Q a → o.wp P a w (Q' .normal) Q') (fuel : Nat) (listed : Array Bool) (a : Act) (w : World) (hC : C w) (hs : listed.size = n + 1) (hun : listed.getD n true = false)
    (ih : ∀ (listed : Array Bool) (a : Act) (w : World), C w → listed.size = n + 1 → listed.getD n true = false → wpAnyQ P md ops' C Q fuel listed a → wpAny P md ops Q' fuel listed a w)
    (h : wpAnyQ P md ops' C Q (fuel + 1) listed a) : wpAny P md ops Q' (fuel + 1) listed a w := by
  refine ⟨fun h0 => absurd h0 (L.some_ready listed hs n (Nat.le_refl _) hun), fun i hi => ?_⟩
  have hi' : i ∈ Region.ready md ops' listed := by rw [L.ready]; exact hi
  have hq := h.2 i hi'
  obtain ⟨_, oi, hoi, _⟩ := mem_ready.1 hi
  have hlt : i < n + 1 := by rw [← L.size]; exact (Array.getElem?_eq_some_iff.1 hoi).1
  by_cases hin : i = n
  · subst hin
    obtain ⟨o', h1, h2, h3, _, _⟩ := L.blank
    have hnil := L.none_ready listed hs hi
    have hQa : Q a := by
      unfold qOp at hq
      rw [h1] at hq
      have hw : Region.wanted o' (yielded ops' a.tmps) = true := by simp [Region.wanted, h3]
      simp only [hw, if_true] at hq
      obtain ⟨v, _, hk⟩ := hq
      rw [h2] at hk
      have hk2 : wpAnyQ P md ops' C Q fuel (listed.setIfInBounds i true) a := hk
      cases fuel with
      | zero => exact hk2.2
      | succ fuel => exact hk2.1 (by rw [L.ready]; exact hnil)
    unfold wpOp
    rw [L.here]
    have hw : Region.wanted o (yielded ops a.tmps) = true := by simp [Region.wanted, L.guard]
    simp only [hw, if_true]
    refine .inl (Oper.wp_mono (fun a' w' hq' => ?_) (hQ a w hC hQa))
    cases fuel with
    | zero => exact ⟨hnil, hq'⟩
    | succ fuel => exact ⟨fun _ => hq', fun j hj => by rw [hnil] at hj; cases hj⟩
  · have hq2 : qOp P ops C i (wpAnyQ P md ops' C Q fuel (listed.setIfInBounds i true)) a := by
      unfold qOp at hq ⊢
      rw [L.same i (by omega), L.yielded] at hq
      exact hq
    refine wpOp_of_qOp hC (fun a' w' hC' hk => ?_) hq2
    exact ih _ a' w' hC' (by simpa using hs) (by rw [getD_set_ne true (fun e => hin e)]; exact hun) hk
theorem last_any (L : LastOp md ops ops' n o) {Q : Act → Prop} {Q' : Exit → Act → World → Prop} (hQ : ∀ a w, C w → Q a → o.wp P a w (Q' .normal) Q') : ∀ (fuel : Nat) (listed : Array Bool) (a : Act) (w : World), C w → listed.size = n + 1 → listed.getD n true = false →
    wpAnyQ P md ops' C Q fuel listed a → wpAny P md ops Q' fuel listed a w
  | 0, listed, _, _, _, hs, hun, h => absurd (by rw [← L.ready]; exact h.1) (L.some_ready listed hs n (Nat.le_refl _) hun)
  | fuel + 1, listed, a, w, hC, hs, hun, h => last_step L hQ fuel listed a w hC hs hun (last_any L hQ fuel) h
end

/-- The operations with a blank in the place of the last. -/
def blankLast : List Oper → List Oper
  | [] => []
  | [o] => [{ o with op := .move (.const (.bool true)) }]
  | x :: y :: r => x :: blankLast (y :: r)
def lastB (l : List Oper) : Bool := match l.getLast? with
  | none => false
  | some o => o.guard.isNone && o.dst.isNone && (List.range (l.length - 1)).all (fun i => o.after.any fun e => Region.binds .any e && e.on == i) && (List.range l.length).all fun j => match l[j]? with
    | none => true
    | some oj => oj.after.all fun e => decide (e.on < j)
theorem blankLast_len : ∀ l : List Oper, (blankLast l).length = l.length
  | [] => rfl
  | [_] => rfl
  | x :: y :: r => by simp [blankLast, blankLast_len (y :: r)]
theorem blankLast_get : ∀ (l : List Oper) (i : Nat), i + 1 < l.length → (blankLast l)[i]? = l[i]?
  | [], i, h => by simp at h
  | [_], i, h => by simp at h
  | x :: y :: r, 0, _ => rfl
  | x :: y :: r, i + 1, h => by
    simp only [blankLast, List.getElem?_cons_succ]
    exact blankLast_get (y :: r) i (by simpa using h)
theorem blankLast_last : ∀ (l : List Oper) (o : Oper), l.getLast? = some o → (blankLast l)[l.length - 1]? = some { o with op := .move (.const (.bool true)) }
  | [], _, h => by simp at h
  | [x], o, h => by simp at h; subst h; rfl
  | x :: y :: r, o, h => by
    have := blankLast_last (y :: r) o (by simpa using h)
    simp only [blankLast, List.length_cons] at this ⊢
    simpa using this
theorem lastOp_of (l : List Oper) (o : Oper) (ho : l.getLast? = some o) (h : lastB l = true) : LastOp .any l.toArray (blankLast l).toArray (l.length - 1) o := by
  have hpos : 0 < l.length := by cases l <;> simp at ho ⊢
  unfold lastB at h
  rw [ho] at h
  simp only [Bool.and_eq_true, List.all_eq_true, Option.isNone_iff_eq_none] at h
  obtain ⟨⟨⟨hg, hd⟩, hw⟩, hl⟩ := h
  refine ⟨by simp; omega, by simp [blankLast_len]; omega, fun i hi => ?_, ?_, hg, ⟨{ o with op := .move (.const (.bool true)) }, by simpa using blankLast_last l o ho, hd, hg, rfl, hd⟩, fun i hi => ?_, fun j oj hj e he => ?_⟩
  · simpa using blankLast_get l i (by omega)
  · rw [List.getLast?_eq_getElem?] at ho
    simpa using ho
  · have := hw i (List.mem_range.2 hi)
    obtain ⟨e, he, hb⟩ := Array.any_eq_true'.1 this
    simp only [Bool.and_eq_true, beq_iff_eq] at hb
    exact ⟨e, he, hb.1, hb.2⟩
  · have hj' : l[j]? = some oj := by simpa using hj
    have hjl : j < l.length := (List.getElem?_eq_some_iff.1 hj').1
    have := hl j (List.mem_range.2 hjl)
    rw [hj'] at this
    simpa using Array.all_eq_true'.1 this e he
theorem region_gr_last {P : Program} {id : Nat} {Q : Exit → Act → World → Prop} {a : Act} {w : World} {l : List Oper} (w0 : World) (o : Oper) (ho : l.getLast? = some o) (hm : P.follows .mixedOrders = true) (hL : lastB l = true) (hB : Region.lexB .any (blankLast l).toArray = true) (hg : Grew w0 w)
    (h : wpQuiet P (blankLast l).toArray (fun W' => ∃ i : Gr w0, W' = i.W) (fun a' => ∀ W', (∃ i : Gr w0, W' = i.W) → o.wp P a' W' (Q .normal) Q) (blankLast l) a) : (Code.region id l.toArray true).wp P Q a w := by
  have L := lastOp_of l o ho hL
  have hpos : 0 < l.length := by cases l <;> simp at ho ⊢
  simp only [Region.lexB, Bool.and_eq_true] at hB
  refine wp_region_any hm ?_
  have hq := wpAnyQ_lex (P := P) (C := fun W' => ∃ i : Gr w0, W' = i.W) (md := .any) hB.1 (blankLast l) 0 (Array.replicate (blankLast l).toArray.size false) a (by simp) (by simpa using hB.2) h
  have hsz : (blankLast l).length = l.toArray.size := by simp [blankLast_len]
  have hsz2 : (blankLast l).toArray.size = l.toArray.size := by simp [blankLast_len]
  rw [hsz, hsz2] at hq
  refine last_any L (fun a' w' hC hq' => hq' w' hC) _ _ _ _ ⟨⟨w.drew, hg.drew⟩, rfl⟩ (by simp; omega) ?_ hq
  rw [Array.getD_eq_getD_getElem?, Array.getElem?_eq_getElem (by simp; omega)]
  simp
end Go.Proofs.YtjaknioojpgkiaaGreatDoor
