/- slices.Collect over slices.Values: a slice of its own that holds what the slice holds. No condition but the sizes that a slice can have. -/
import Derived.RangeFuncBox
import Derived.RangeFuncLeaves
import Derived.OwnWalkIn
import Derived.TacticsInMore
import Derived.LoopNIn
import Derived.LoopIn
import Derived.Maps.AppendAt
import Derived.Test.YtiikniopjcnphaaDoorProg
import Derived.Test.YtiikniopjcnphaaDoorTypes
namespace Go.Proofs.YtiikniopjcnphaaDoor
open Go.RowKit Go.Shelf

attribute [local go_sem] Oper.semAt_some

theorem infoS : (Tryd.prog.info? 9).map (fun i => (i.zero, i.size, i.bytes)) = some (some (.string ⟨#[]⟩), 1, 16) := by kernel_rfl
set_option maxRecDepth 100000 in
set_option maxHeartbeats 2000000 in
theorem values1S_in (F : Fence) (n : Nat) (h7 : F.fn 70) (hro : F.round = none) (hn : 1 ≤ n) (l Bs n₀ b off cap : Nat) (zs : List ByteArray) (hreach : zs.length ≤ 9223372036854775807) (hb : b < n₀) (J Jx : List ByteArray → World → Prop)
    (hY : ∀ pre x W, J pre W → pre.length < zs.length → YieldAt F (n - 1) Tryd.prog l #[Value.string x] W fun e W' =>
      (e = .returned (.bool true) ∧ J (pre ++ [x]) W' ∧ Below n₀ W W') ∨ (e = .returned (.bool false) ∧ Jx (pre ++ [x]) W'))
    (W : World) (hBs : W.cell? ⟨Bs, 0, none⟩ = some (.slice (some ⟨b, off, none⟩) zs.length cap)) (hc : ∀ j (hj : j < zs.length), W.cell? ⟨b, off + j, none⟩ = some (Value.string zs[j])) (h0 : J [] W) :
    CallsIn F n Tryd.prog 70 #[.func (.yield l) #[] #[], .pointer (some ⟨Bs, 0, none⟩)] W fun e W' => (∃ v, e = .returned v) ∧
      ((∃ ys, ys = zs ∧ J ys W') ∨ (∃ pre, pre <+: zs ∧ Jx pre W')) := by
  refine callsIn_of_wp Tryd.func70 rfl h7 ?_ hro
  simp only [Tryd.ntmps70, List.size_toArray, List.length_cons, List.length_nil, Nat.reduceAdd, Nat.reduceSub, Array.replicate_succ, Array.replicate_zero, List.push_toArray, List.append_toArray, List.nil_append, List.cons_append]
  have HC := Lib.hid hc
  have HY := Lib.hid hY
  clear hc hY
  gi_wp2
  gi_loopw [7] (fun i wr => ∃ k : Nat, k ≤ zs.length ∧ i = .int .i64 k ∧ J (zs.take k) wr ∧ Below n₀ W wr)
    (fun i _ => zs.length - (intOf i).toNat)
  case atStart => exact ⟨0, Nat.zero_le _, rfl, h0, Below.refl _ _⟩
  case round =>
    obtain ⟨k, hk, rfl, hJs, hnx⟩ := hrel
    by_cases hlt : k < zs.length
    · have hcx' : wr.cell? ⟨b, off + k, none⟩ = some (Value.string zs[k]) := (hnx.cell (p := ⟨b, off + k, none⟩) hb).trans (HC.out k hlt)
      obtain ⟨fn, tmps, assign, body, hy, hR⟩ := HY.out _ zs[k] wr hJs (by rw [List.length_take]; omega)
      have HT := Lib.hid (List.take_succ_eq_append_getElem hlt)
      generalize zs[k] = y at hcx' hy hR HT
      gi_wp2
      refine hR.mono ?_
      rintro e W3 (⟨rfl, hJ3, hk3⟩ | ⟨rfl, hJx3⟩)
      · gi_wp2
        go_roundw
        case rel => exact ⟨k + 1, by omega, by simp, by rw [HT.out]; exact hJ3, hnx.trans hk3⟩
        case measure => simp [intOf]; omega
      · gi_wp2
        refine bodyPost_ret (results_none rfl _ _ _) rfl ?_
        exact ⟨⟨_, rfl⟩, .inr ⟨_, by rw [← HT.out]; exact List.take_prefix _ _, hJx3⟩⟩
    · have e : zs.take k = zs := List.take_of_length_le (by omega)
      rw [e] at hJs
      clear e
      gi_wp2
      go_end0
      exact ⟨⟨_, rfl⟩, .inl ⟨_, rfl, hJs⟩⟩

set_option maxRecDepth 100000 in
set_option maxHeartbeats 1000000 in
theorem values1S_nil_in (F : Fence) (n : Nat) (h7 : F.fn 70) (hro : F.round = none) (l Bs : Nat) (A : Option Addr) (cap : Nat) (J : List ByteArray → World → Prop) (W : World) (hBs : W.cell? ⟨Bs, 0, none⟩ = some (.slice A 0 cap)) (h0 : J [] W) :
    CallsIn F n Tryd.prog 70 #[.func (.yield l) #[] #[], .pointer (some ⟨Bs, 0, none⟩)] W fun e W' => (∃ v, e = .returned v) ∧ J [] W' := by
  refine callsIn_of_wp Tryd.func70 rfl h7 ?_ hro
  simp only [Tryd.ntmps70, List.size_toArray, List.length_cons, List.length_nil, Nat.reduceAdd, Nat.reduceSub, Array.replicate_succ, Array.replicate_zero, List.push_toArray, List.append_toArray, List.nil_append, List.cons_append]
  gi_wp2
  gi_loopw [7] (fun i wr => i = .int .i64 0 ∧ J [] wr) (fun _ _ => 0)
  case atStart => exact ⟨rfl, h0⟩
  case round =>
    obtain ⟨rfl, hJs⟩ := hrel
    gi_wp2
    go_end0
    exact ⟨⟨_, rfl⟩, hJs⟩

theorem valuesS_any (A : Option Addr) (n c : Nat) (w : World) : Calls Tryd.prog 51 #[.slice A n c] w fun e w' => e = .returned (.func (.func 70) #[] #[.pointer (some ⟨w.heap.size, 0, none⟩)]) ∧ w.alloc (.cells #[.slice A n c] 28) = w' := by
  go_enter Tryd.func51, Tryd.ntmps51
  go_wp2
  go_ret
  exact ⟨rfl, rfl⟩

theorem valuesS_stops (F : Fence) (n : Nat) (h7 : F.fn 70) (hro : F.round = none) (hn : 1 ≤ n) (Bs n₀ : Nat) (sv : Value) (zs : List ByteArray) (w w0 : World) (hBs : Bs < w.heap.size) (hn₀ : n₀ ≤ w.heap.size) (hw0 : w0.heap.size = n₀) (hg : Below n₀ w0 w)
    (hc : w.cell? ⟨Bs, 0, none⟩ = some sv) (hI : SlS w0 sv zs) :
    SeqStopsK F n Tryd.prog 70 #[.pointer (some ⟨Bs, 0, none⟩)] (fun x : ByteArray => #[Value.string x]) (Below n₀) (fun ys => ys = zs) (fun pre => pre <+: zs) zs.length w := fun l J Jx W hW _ _ hY h0 => by
  have hc' := (hW.cell (p := ⟨Bs, 0, none⟩) hBs).trans hc
  obtain ⟨A, c, rfl, hlc, hcm, hr⟩ := hI.open_
  rcases Nat.eq_zero_or_pos zs.length with hz | hz
  · obtain rfl : zs = [] := List.eq_nil_of_length_eq_zero hz
    exact (values1S_nil_in F n h7 hro l Bs A c J W hc' h0).mono fun e W' ⟨he, hj⟩ => ⟨he, .inl ⟨_, rfl, hj⟩⟩
  · obtain ⟨b, off, rfl, hb, hcell⟩ := hr hz
    have hgw : Grew w0 W := by
      have := hg.trans (hW.mono hn₀)
      unfold Grew
      rw [hw0]
      exact this
    exact values1S_in F n h7 hro hn l Bs n₀ b off c zs (by unfold maxLen at hcm; omega) (by omega) J Jx hY W hc' (fun j hj => hcell W hgw j hj) h0

set_option maxRecDepth 100000 in
set_option maxHeartbeats 4000000 in
/-- slices.AppendSeq, from nothing, over slices.Values. -/
theorem appendSeqS_in (F : Fence) (n : Nat) (h3 : F.fn 80) (h5 : F.fn 70) (hro : F.round = none) (hn : 3 ≤ n) (Bs n₀ : Nat) (sv : Value) (zs : List ByteArray) (hlen : zs.length ≤ maxLen) (hbytes : zs.length * 16 ≤ 140737488355328) (w w0 : World)
    (hBs : Bs < w.heap.size) (hn₀ : n₀ ≤ w.heap.size) (hw0 : w0.heap.size = n₀) (hg : Below n₀ w0 w) (hc : w.cell? ⟨Bs, 0, none⟩ = some sv) (hI : SlS w0 sv zs) :
    CallsIn F n Tryd.prog 80 #[.slice none 0 0, .func (.func 70) #[] #[.pointer (some ⟨Bs, 0, none⟩)]] w fun e W' => ∃ v, e = .returned v ∧ W'.ownsRow w.heap.size 9 1 v zs.length (zs.map (Value.string)) ∧ Below w.heap.size w W' := by
  have h1 : 1 ≤ n := by omega
  obtain ⟨i0, hi, hz0, hz1, hz2⟩ := info_parts infoS
  refine callsIn_of_wp_marks Tryd.func80 rfl h3 ?_ hro
  simp only [Tryd.ntmps80, List.size_toArray, List.length_cons, List.length_nil, Nat.reduceAdd, Nat.reduceSub, Array.replicate_succ, Array.replicate_zero, List.push_toArray, List.append_toArray, List.nil_append, List.cons_append]
  unfold maxLen at hlen
  gi_wp2
  have bO := Boxed.new w 28 (.slice none 0 0)
  have hB0 : Below w.heap.size w (w.alloc (.cells #[.slice none 0 0] 28)) := (Below.refl _ w).alloc (Nat.le_refl _) _
  refine wpIn_rangeFunc_ownG hro h1 (gf := 70) (lb := #[.pointer (some ⟨Bs, 0, none⟩)]) rfl h5 (enters_of Tryd.func70 (by kernel_rfl) rfl)
    (valuesS_stops F (n - 1) h5 hro (by omega) Bs n₀ sv zs _ w0 (by simp; omega) (by simp; omega) hw0 (hg.trans (hB0.mono hn₀)) ((World.cell?_alloc_lt _ _ _ hBs).trans hc) hI) belowK_t (belowK_b (by simp; omega)) (Below.refl _ _) (fun _ => rfl)
    (fun pre W => (∃ v, Boxed W w.heap.size 28 v ∧ W.ownsRow w.heap.size 9 1 v pre.length (pre.map (Value.string)) ∧ (v = .slice none 0 0 ↔ pre = [])) ∧ Below w.heap.size w W)
    (fun _ _ _ => False)
    (OwnFrom.and (Own.from (holdsRow_own w.heap.size w.heap.size 28 9 1 (fun pre => pre.length) (fun pre => pre.map (Value.string)) (fun pre v => v = .slice none 0 0 ↔ pre = [])) _) (ownFrom_below (Nat.le_refl _) (by simp)))
    (fun _ _ _ _ _ hs _ _ => hs)
    ⟨⟨_, bO, World.ownsRow_nil _ _ _ _, by simp⟩, hB0⟩
    (fun x => { tmps := #[.slice none 0 0, .func (.func 70) #[] #[.pointer (some ⟨Bs, 0, none⟩)], .pointer (some ⟨w.heap.size, 0, none⟩), undef, .slice none 0 0, Value.string x, .func (.func 70) #[] #[.pointer (some ⟨Bs, 0, none⟩)], Value.string x, undef, undef, undef, undef, undef], defers := [] }) ?assign ?body ?done ?stop
  case assign =>
    intro l x W K hK
    gi_wp2
    exact hK
  case body =>
    rintro l pre x W ⟨⟨v, hv, hrow, hnil⟩, hB⟩ hlt
    have hc := hv.cell
    gi_wp2_with (gi_at_builtin; refine wpListIn_append_own _ rfl _ _ 28 rfl w.heap.size 9 i0 (.string ⟨#[]⟩) 1 16 Tryd.underlying28 hi hz0 hz1 hz2 rfl (by decide) _ _ _ rfl (hrow.alloc _) ⟨W.heap.size, 0, none⟩ 1 1 [Value.string x] rfl rfl (cell_one_new _ _ _) (by simp [Value.oneCell']) (by unfold maxLen; omega) (by omega) (by have := hB.size; simp; omega) ?_; intro v' w1 hown' hgrow _; obtain ⟨g', cap', rfl⟩ := ownsRow_succ hown'; obtain ⟨hv1, hv2, hr2, hk2, hb2⟩ := hv.appended (by decide) hrow hB.size (Nat.le_refl _) hown' hgrow; have hc1 := hv1.cell; have hf1 := hv1.frozen)
    exact ⟨hk2.from _, hb2.mono hn₀, ⟨_, hv2, by simpa using hr2, by simp⟩, hB.trans hb2⟩
  case done =>
    rintro D ys W hD rfl ⟨⟨v, hv, hrow, hnil⟩, hB⟩ hK
    have hc := hv.cell
    gi_wp2
    refine ⟨by simp, .inl ⟨_, _, rfl, run_takeDeferred hK, ?_⟩⟩
    exact ⟨_, results_tmp rfl _ _ _, v, rfl, ownsRow_putObj hrow _ hK rfl, hB.trans (belowK_b (w := w) (Nat.le_refl _) W D _ _ (by simp at hD; omega) hK rfl rfl)⟩
  case stop =>
    rintro D c pre W _ _ h _
    exact h.elim

/-- slices.Collect over slices.Values: a slice of its own that holds the same. -/
theorem collectS_any (sv : Value) (zs : List ByteArray) (hbytes : zs.length * 16 ≤ 140737488355328) (Bs : Nat) (w w0 : World) (hBs : Bs < w.heap.size) (hg : Grew w0 w) (hc : w.cell? ⟨Bs, 0, none⟩ = some sv) (hI : SlS w0 sv zs) :
    Calls Tryd.prog 68 #[.func (.func 70) #[] #[.pointer (some ⟨Bs, 0, none⟩)]] w fun e w' => ∃ v, e = .returned v ∧ w'.ownsRow w.heap.size 9 1 v zs.length (zs.map (Value.string)) ∧ Grew w w' := by
  have hl : zs.length ≤ maxLen := by unfold maxLen; omega
  have ha := callsIn_wide.1 (appendSeqS_in Fence.wide 3 trivial trivial rfl (by omega) Bs w0.heap.size sv zs hl hbytes w w0 hBs hg.size rfl hg hc hI)
  have HA := Lib.hid ha
  clear ha
  go_enter Tryd.func68, Tryd.ntmps68
  go_wp2_with (first | (go_at_call 80; refine HA.out.mono ?_; rintro e w1 ⟨v, rfl, ho, hb⟩))
  go_ret
  exact ⟨v, rfl, ho, hb⟩

end Go.Proofs.YtiikniopjcnphaaDoor
