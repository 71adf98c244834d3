/- Lemmas on what the functions of the program and of the library compute: PlainWb, DelV, FrameR, OpenR, OpenI, PlainIx, ExI. The conditions stand at each. -/
import Derived.Test.YtmbpeniaefpljaaGreatDoorQ11
import Derived.Test.YtmbpeniaefpljaaGreatDoorQ37
import Derived.Test.YtmbpeniaefpljaaGreatDoorQ3
import Derived.Lib.Overlaps
import Derived.Lib.AppendZerosOnto
import Derived.Laws.CopyOwn
import Derived.Test.YtmbpeniaefpljaaGreatDoorQ19
import Derived.Test.YtmbpeniaefpljaaGreatDoorQ8
import Derived.Test.YtmbpeniaefpljaaGreatDoorQ22
import Derived.Test.YtmbpeniaefpljaaGreatDoorCards
import Derived.Test.YtmbpeniaefpljaaGreatDoorTie
import Derived.Test.YtmbpeniaefpljaaGreatDoorQ1
import Derived.Test.YtmbpeniaefpljaaGreatDoorQ2
import Derived.WalkKit
import Derived.ProofKit
import Derived.OpenShut
import Derived.Carry
import Derived.ChangeMaps5
import Derived.SliceStrings
import Derived.Deep.Slices
import Derived.Deep.DeepHandedRow
import Derived.Lib.LaidTab
import Derived.LaidSub
import Derived.Shelf.Vars
/- The laws InheritWithout and InheritConnected, plainly. No condition. -/
namespace Go.Proofs.YtmbpeniaefpljaaGreatDoor
open Go.RowKit

theorem redB_is {t : Tr} {vs : List Val} {v : Val} (h : redB t vs v = true) : ∃ b w, brFind t.brs v.unit = some b ∧ (kindOf v.elem).inh = true ∧ foundF t.brs vs b.parent v.elem v.lang = some w ∧ w.text = v.text := by
  unfold redB at h
  cases hb : brFind t.brs v.unit with
  | none => rw [hb] at h; cases h
  | some b =>
    rw [hb] at h
    dsimp only at h
    rw [Bool.and_eq_true] at h
    obtain ⟨h1, h2⟩ := h
    cases hw : foundF t.brs vs b.parent v.elem v.lang with
    | none => rw [hw] at h2; cases h2
    | some w =>
      rw [hw] at h2
      exact ⟨b, w, rfl, h1, hw, bytes_inj (beq_iff_eq.1 h2)⟩
theorem red_get {t : Tr} {vs : List Val} {x : Int} (hx : x ∈ redF t vs) : ∃ i, ∃ hi : i < vs.length, x = (i : Int) ∧ redB t vs vs[i] = true := by
  unfold redF at hx
  obtain ⟨i, hi, rfl⟩ := List.mem_map.1 hx
  obtain ⟨h1, h2⟩ := List.mem_filter.1 hi
  have hl := List.mem_range.1 h1
  rw [List.getElem?_eq_getElem hl] at h2
  exact ⟨i, hl, rfl, h2⟩
theorem ofI_erase {t : Tr} {ls : List ByteArray} {vs : List Val} (h : ofI t ls vs = 0) (i : Nat) : ofI t ls (vs.eraseIdx i) = 0 :=
  ofI_zero.2 ⟨(ofI_zero.1 h).1, (ofI_zero.1 h).2.part (List.eraseIdx_sublist ..)⟩
theorem askI_erase {t : Tr} {ls : List ByteArray} {vs : List Val} (h : ofI t ls vs = 0) (i : Nat) (u n : Int) (lang : ByteArray) : askI t ls (vs.eraseIdx i) u n lang = askI t ls vs u n lang := by
  unfold askI
  rw [h, ofI_erase h]
theorem opt_text {a b : Option Val} (h : a.map (·.text) = b.map (·.text)) : a.isSome = b.isSome ∧ (a.getD val0).text = (b.getD val0).text := by
  cases a <;> cases b <;> simp_all
theorem opt_text2 {a b : Option Val} (h : a.map (fun v => (v.text, v.lang)) = b.map (fun v => (v.text, v.lang))) : a.isSome = b.isSome ∧ (a.getD val0).text = (b.getD val0).text ∧ (a.getD val0).lang = (b.getD val0).lang := by
  cases a <;> cases b <;> simp_all
/-- Without a redundant value Found returns the same text. -/
theorem wo_found {t : Tr} {ls : List ByteArray} {vs : List Val} (h : ofI t ls vs = 0) {i : Nat} (hi : i < vs.length) (hr : redB t vs vs[i] = true) (u n : Int) (lang : ByteArray) :
    (foundR t ls (vs.eraseIdx i) u n lang).2 = (foundR t ls vs u n lang).2 ∧ (foundR t ls (vs.eraseIdx i) u n lang).1.isSome = (foundR t ls vs u n lang).1.isSome ∧ ((foundR t ls (vs.eraseIdx i) u n lang).1.getD val0).text = ((foundR t ls vs u n lang).1.getD val0).text := by
  obtain ⟨b, w, h1, h2, h3, h4⟩ := redB_is hr
  obtain ⟨hT, hR⟩ := ofI_zero.1 h
  have hh := opt_text (without_found hT hR hi h1 h2 h3 h4 n lang _ u (Nat.le_refl _))
  unfold foundR
  rw [askI_erase h]
  by_cases hz : askI t ls vs u n lang = 0
  · rw [if_pos hz, if_pos hz]
    exact ⟨rfl, hh⟩
  · rw [if_neg hz, if_neg hz]
    exact ⟨rfl, rfl, rfl⟩
theorem wo_eff {t : Tr} {ls : List ByteArray} {vs : List Val} (h : ofI t ls vs = 0) {i : Nat} (hi : i < vs.length) (hr : redB t vs vs[i] = true) (u n : Int) (lang : ByteArray) :
    (effR t ls (vs.eraseIdx i) u n lang).2 = (effR t ls vs u n lang).2 ∧ (effR t ls (vs.eraseIdx i) u n lang).1.isSome = (effR t ls vs u n lang).1.isSome ∧ ((effR t ls (vs.eraseIdx i) u n lang).1.getD val0).text = ((effR t ls vs u n lang).1.getD val0).text ∧ ((effR t ls (vs.eraseIdx i) u n lang).1.getD val0).lang = ((effR t ls vs u n lang).1.getD val0).lang := by
  obtain ⟨b, w, h1, h2, h3, h4⟩ := redB_is hr
  obtain ⟨hT, hR⟩ := ofI_zero.1 h
  have hh := opt_text2 (without_eff hT hR hi h1 h2 h3 h4 u n lang)
  unfold effR
  rw [askI_erase h]
  by_cases hz : askI t ls vs u n lang = 0
  · rw [if_pos hz, if_pos hz]
    exact ⟨rfl, hh⟩
  · rw [if_neg hz, if_neg hz]
    exact ⟨rfl, rfl, rfl, rfl⟩
theorem any_mem (l : List Int) (u : Int) : (l.any fun y => u == y) = true ↔ u ∈ l := by
  rw [List.any_eq_true]
  constructor
  · rintro ⟨y, hy, e⟩
    have : u = y := by simpa using e
    rw [this]
    exact hy
  · exact fun h => ⟨u, h, by simp⟩
/-- What InheritConnected asks of the reach of a value. -/
theorem co_own {t : Tr} {ls : List ByteArray} {vs : List Val} {u n : Int} {lang : ByteArray} (h : askI t ls vs u n lang = 0) : ((reachF t vs u n lang).any fun y => u == y) = (getF vs u n lang).isSome := by
  obtain ⟨h1, ⟨b, hb⟩, -⟩ := askI_zero.1 h
  rw [Bool.eq_iff_iff, any_mem, reach_own h1.1 hb]
theorem co_none {t : Tr} {ls : List ByteArray} {vs : List Val} {u n : Int} {lang : ByteArray} (h : askI t ls vs u n lang = 0) (hg : (getF vs u n lang).isSome = false) : reachF t vs u n lang = [] := by
  obtain ⟨h1, -⟩ := askI_zero.1 h
  cases hr : reachF t vs u n lang with
  | nil => rfl
  | cons a r =>
    have := reach_some h1.1 (t := t) (vs := vs) (unit := u) (n := n) (lang := lang) (u := a) (by rw [hr]; simp)
    rw [hg] at this
    cases this
theorem co_up {t : Tr} {ls : List ByteArray} {vs : List Val} {u n : Int} {lang : ByteArray} (h : askI t ls vs u n lang = 0) {x : Int} (hx : x ∈ reachF t vs u n lang) : (brFind t.brs x).isSome = true ∧ (x ≠ u → ((reachF t vs u n lang).any fun y => ((brFind t.brs x).getD br0).parent == y) = true) := by
  obtain ⟨h1, -⟩ := askI_zero.1 h
  refine ⟨?_, fun hne => ?_⟩
  · have hm : x ∈ belowT t 0 := by
      unfold reachF at hx
      exact (List.mem_filter.1 hx).1
    have hS := right_sound h1.1
    obtain ⟨c, hc, e⟩ := (all_mem_iff hS x).1 hm
    rw [← e, find_byid hS.asc hc]
    rfl
  · obtain ⟨b, hb, hp⟩ := reach_parent h1.1 hx hne
    rw [hb]
    exact (any_mem _ _).2 hp
theorem co_one {t : Tr} {ls : List ByteArray} {vs : List Val} {u n : Int} {lang : ByteArray} (h : askI t ls vs u n lang = 0) (hi : (kindOf n).inh = false) : (reachF t vs u n lang).length ≤ 1 := by
  obtain ⟨h1, -⟩ := askI_zero.1 h
  exact reach_one h1.1 hi
theorem co_apart {t : Tr} {ls : List ByteArray} {vs : List Val} {u o n : Int} {lang : ByteArray} (h : askI t ls vs u n lang = 0) (hne : o ≠ u) : ((reachF t vs o n lang).any fun y => (reachF t vs u n lang).any fun z => y == z) = false := by
  obtain ⟨h1, -⟩ := askI_zero.1 h
  rw [List.any_eq_false]
  intro y hy hz
  have := (any_mem _ _).1 hz
  exact hne (reach_apart h1.1 hy this)
end Go.Proofs.YtmbpeniaefpljaaGreatDoor

/- slices.Delete of one value, on a row of the call's own; all other blocks are as they were. No condition but the sizes that a slice can have. -/
namespace Go.Proofs.YtmbpeniaefpljaaGreatDoor
open Go.RowKit

theorem own_stretchV {w : World} {base : Nat} {e : TypeId} {k g m n cap : Nat} {xs : List Value} (h : w.ownsRow base e k (.slice (some ⟨g, 0, none⟩) m cap) m xs) (hmn : m ≤ n) (hn : n ≤ cap) : ∃ ds, w.ownsRow base e k (.slice (some ⟨g, 0, none⟩) n cap) n ds ∧ ds.take (m * k) = xs := by
  obtain ⟨hl, h2⟩ := h
  rcases h2 with ⟨h3, _⟩ | ⟨g', cap', cur, hv, hb, hh, hnc, hcm, hcs, htk⟩
  · cases h3
  · injection hv with hA _ hc
    injection hA with hA
    injection hA with hA _ _
    subst hA hc
    have hmk : m * k ≤ n * k := Nat.mul_le_mul_right k hmn
    have hnk : n * k ≤ cap * k := Nat.mul_le_mul_right k hn
    refine ⟨cur.toList.take (n * k), ⟨?_, .inr ⟨g, cap, cur, rfl, hb, hh, hn, hcm, hcs, rfl⟩⟩, ?_⟩
    · rw [List.length_take, Array.length_toList, hcs]
      omega
    · rw [List.take_take, Nat.min_eq_left hmk]
      exact htk
theorem delDoneV {w0 w2 : World} {base g cap N k : Nat} {e : TypeId} {xs ds ds2 : List Value} (hds : ds.take (N * k) = xs) (h3 : w2.ownsRow base e k (.slice (some ⟨g, 0, none⟩) (N + 1) cap) (N + 1) ds2) (hd : ∀ t, t < N * k → ds2[t]? = ds[t]?) (hg : w0.grownBy w2 (some g)) :
    w2.ownsRow base e k (.slice (some ⟨g, 0, none⟩) N cap) N xs ∧ w0.grownBy w2 (some g) := by
  have h4 := own_cut h3 N (Nat.le_succ _)
  have : ds2.take (N * k) = xs := by
    rw [← hds]
    apply List.ext_getElem?
    intro t
    rw [List.getElem?_take, List.getElem?_take]
    split
    · next ht => exact hd t ht
    · rfl
  rw [this] at h4
  exact ⟨h4, hg⟩
set_option maxHeartbeats 4000000 in
set_option maxRecDepth 100000 in
theorem deleteV (base : Nat) (cs : List Val) (i : Nat) (hi : i < cs.length) (v : Value) (w : World) (hown : w.ownsRow base 31 4 v cs.length (cs.flatMap Val.cells)) (hl : cs.length ≤ 1000000) :
    Calls Tryz.prog 34 #[v, .int .i64 i, .int .i64 ((i : Int) + 1)] w fun e w' => ∃ v', e = .returned v' ∧ w'.ownsRow base 31 4 v' (cs.eraseIdx i).length ((cs.eraseIdx i).flatMap Val.cells) ∧ w.grownBy w' v.ownBlock ∧ v'.ownBlock = v.ownBlock := by
  obtain ⟨g, cap, rfl, hbg, hglt, hcap⟩ := own_form hown (by omega)
  have hcm : cap ≤ maxLen := own_max hown
  unfold maxLen at hcm
  obtain ⟨i0, hi0, hz0, hz1, hz2⟩ := info_parts cinfoV
  obtain ⟨N, hN⟩ : ∃ N, cs.length = N + 1 := ⟨cs.length - 1, by omega⟩
  have hfl := flatMap_len Val.cells 4 (fun _ => rfl) cs
  obtain ⟨ht, hd⟩ := flat_take (f := Val.cells) (k := 4) (fun _ => rfl) cs i
  obtain ⟨-, hd1⟩ := flat_take (f := Val.cells) (k := 4) (fun _ => rfl) cs (i + 1)
  have hcut := own_cut hown i (by omega)
  have hE : (cs.eraseIdx i).flatMap Val.cells = (cs.flatMap Val.cells).take (i * 4) ++ (cs.flatMap Val.cells).drop ((i + 1) * 4) := by
    rw [List.eraseIdx_eq_take_drop_succ, List.flatMap_append, ht, hd1]
  have hEl : (cs.eraseIdx i).length = N := by rw [List.length_eraseIdx_of_lt hi, hN]; omega
  have hnl : ((cs.flatMap Val.cells).drop ((i + 1) * 4)).length = (N - i) * 4 := by rw [List.length_drop, hfl, hN, ← Nat.sub_mul]; congr 1; omega
  -- the append
  have happ : ∀ a : Addr, (0 < N - i → a = ⟨g, (i + 1) * 4, none⟩) → ∃ w', (∀ ty, (Builtin.append_ #[27, 27] ty #[.slice (some ⟨g, 0, none⟩) i cap, .slice (some a) (N - i) (cap - (i + 1))]).run Tryz.prog w.drew = .ok (.slice (some ⟨g, 0, none⟩) N cap) w') ∧ w'.ownsRow base 31 4 (.slice (some ⟨g, 0, none⟩) N cap) N ((cs.eraseIdx i).flatMap Val.cells) ∧ w.grownBy w' (some g) := by
    intro a ha
    obtain ⟨w', h1, h2, h3⟩ := run_append_fits (P := Tryz.prog) w.drew base 27 0 31 i0 4 Tryz.underlying27 hi0 hz1 g i cap _ hcut a (N - i) (cap - (i + 1)) ((cs.flatMap Val.cells).drop ((i + 1) * 4)) hnl (fun j u hj => by
      have hpos : 0 < N - i := by
        have := (List.getElem?_eq_some_iff.1 hj).1
        omega
      rw [ha hpos, add_lit]
      have hc := hown.cellAt ((i + 1) * 4 + j) (by have := (List.getElem?_eq_some_iff.1 hj).1; omega)
      show w.cell? _ = _
      rw [hc, ← List.getElem?_drop]
      exact hj) (fun u hu => one_cellsV cs u (List.mem_of_mem_drop hu)) (by omega)
    rw [show i + (N - i) = N by omega] at h1 h2
    refine ⟨w', fun ty => h1, ?_, ⟨h3.os, h3.tape, h3.output, h3.size, h3.block⟩⟩
    rw [hE]
    exact h2
  rw [hEl]
  generalize (cs.eraseIdx i).flatMap Val.cells = XS at happ ⊢
  rw [hN] at hcap hi hown ⊢
  clear hfl ht hd hd1 hE hEl hnl hown hcut hl hN
  have hiz : (i : Int) ≤ ((N + 1 : Nat) : Int) := by omega
  have hi1 : ((i : Int) + 1) ≤ ((N + 1 : Nat) : Int) := by omega
  have h0z : (0 : Int) ≤ (i : Int) := by omega
  have h1z : (0 : Int) ≤ (i : Int) + 1 := by omega
  have hiz2 : (i : Int) ≤ (i : Int) + 1 := by omega
  have hne : ((i : Int) == (i : Int) + 1) = false := beq_eq_false_iff_ne.2 (by omega)
  have htn : ((i : Int) + 1).toNat = i + 1 := by omega
  have hi2 : i ≤ N + 1 := by omega
  have hi3 : i + 1 ≤ N + 1 := by omega
  have hi4 : i ≤ N := by omega
  have hi5 : i ≤ cap := by omega
  have hsub : N + 1 - (i + 1) = N - i := by omega
  by_cases hcc : cap = i + 1
  · obtain ⟨w1, hrun, ho1, hg1⟩ := happ ⟨g, 0, none⟩ (by omega)
    obtain rfl : N = i := by omega
    subst hcc
    simp only [Nat.sub_self] at hrun
    clear happ
    go_enter Tryz.func34, Tryz.ntmps34
    go_wp2_with fail
    refine region_still_tail 6 (by kernel_rfl) (by kernel_rfl) ?_
    simp only [List.take_succ_cons, List.take_zero, List.drop_succ_cons, List.drop_zero]
    iterate 6 still_step
    refine wpStill_nil ?_
    refine Lib.wpList_append_run _ rfl _ _ _ _ rfl _ _ rfl rfl _ _ (hrun _) ?_
    obtain ⟨ds, ho2, hds⟩ := own_stretchV ho1 (Nat.le_succ _) (Nat.le_refl _)
    obtain ⟨w2, ds2, hclr, ho3, hg3, hd3⟩ := run_clear_own (P := Tryz.prog) w1 27 31 0 (.agg #[.int .i64 0, .int .i64 0, .string ⟨#[]⟩, .string ⟨#[]⟩]) 4 Tryz.underlying27 Tryz.zeroValue31 rfl (by omega) (by simp [Value.cells, Value.oneCell']) ho2 N ((N + 1) - N) (Nat.lt_succ_self _)
    have hclr' : ∀ ty, (Builtin.clear_ #[27] ty #[.slice (some ⟨g, N * 4, none⟩) 1 1]).run Tryz.prog w1 = .ok (.tuple #[]) w2 := fun _ => by
      have h := hclr
      rw [show N + 1 - N = 1 by omega] at h
      exact h
    have HFIN := Lib.hid (delDoneV hds ho3 (fun t ht => hd3 t ht) (hg1.trans hg3))
    have hnz : (0 : Int) ≤ (N : Int) := by omega
    have hnz1 : (N : Int) ≤ ((N + 1 : Nat) : Int) := by omega
    have hnn : ¬ (N + 1) = N := by omega
    have hsb : N + 1 - N = 1 := by omega
    clear ho1 hg1 hrun ho2 hds hclr ho3 hg3 hd3
    go_wp2
    go_ret
    exact ⟨_, rfl, HFIN.out.1, HFIN.out.2, rfl⟩
  · obtain ⟨w1, hrun, ho1, hg1⟩ := happ ⟨g, (i + 1) * 4, none⟩ (fun _ => rfl)
    clear happ
    go_enter Tryz.func34, Tryz.ntmps34
    go_wp2_with fail
    refine region_still_tail 6 (by kernel_rfl) (by kernel_rfl) ?_
    simp only [List.take_succ_cons, List.take_zero, List.drop_succ_cons, List.drop_zero]
    iterate 6 still_step
    refine wpStill_nil ?_
    refine Lib.wpList_append_run _ rfl _ _ _ _ rfl _ _ rfl rfl _ _ (hrun _) ?_
    obtain ⟨ds, ho2, hds⟩ := own_stretchV ho1 (Nat.le_succ _) hcap
    obtain ⟨w2, ds2, hclr, ho3, hg3, hd3⟩ := run_clear_own (P := Tryz.prog) w1 27 31 0 (.agg #[.int .i64 0, .int .i64 0, .string ⟨#[]⟩, .string ⟨#[]⟩]) 4 Tryz.underlying27 Tryz.zeroValue31 rfl (by omega) (by simp [Value.cells, Value.oneCell']) ho2 N (cap - N) (Nat.lt_succ_self _)
    have hclr' : ∀ ty, (Builtin.clear_ #[27] ty #[.slice (some ⟨g, N * 4, none⟩) 1 (cap - N)]).run Tryz.prog w1 = .ok (.tuple #[]) w2 := fun _ => by
      have h := hclr
      rw [show N + 1 - N = 1 by omega] at h
      exact h
    have HFIN := Lib.hid (delDoneV hds ho3 (fun t ht => hd3 t ht) (hg1.trans hg3))
    have hnz : (0 : Int) ≤ (N : Int) := by omega
    have hnz1 : (N : Int) ≤ ((N + 1 : Nat) : Int) := by omega
    have hnn : ¬ cap = N := by omega
    have hsb : N + 1 - N = 1 := by omega
    clear ho1 hg1 hrun ho2 hds hclr ho3 hg3 hd3
    go_wp2
    go_ret
    exact ⟨_, rfl, HFIN.out.1, HFIN.out.2, rfl⟩
end Go.Proofs.YtmbpeniaefpljaaGreatDoor

/- The frame that every statement of this seat needs: what a call that returns true and leaves all older blocks alone gives for the row; the witness's world, in which the listed tables lie; what the library's own variables hold. No condition. -/
namespace Go.Proofs.YtmbpeniaefpljaaGreatDoor
open Go.ChangeShapes Go.WideShapes Go.ChangeAt Go.RowKit

theorem own : ownKnob Tryz.prog.godebug = none := by kernel_rfl
theorem laidOut : laidOutB Tryz.prog = true := by kernel_rfl

/-- Arguments read as before where nothing older has turned. -/
theorem trodAll_stays {H : Type} {enc : TypeId × Value → H} {P : Program} (hl : laidOutB P = true) {W W' : World} (hb : Below W.heap.size W W') : ∀ {ts : List TypeId} {vs : List Value} {ds : List (DataW H)} {ps : List MemPlace},
    (ts.all fun t => P.readableRec t && decide (t < P.types.size)) = true → DataW.TrodAll enc P W 0 (fun _ => true) true ts vs ds ps → (∀ x ∈ ps, x.block < W.heap.size) → DataW.TrodAll enc P W' 0 (fun b => decide (b < W.heap.size)) true ts vs ds ps
  | [], _, _, _, _, h, _ => by
    obtain ⟨rfl, rfl, rfl⟩ := trodAll_nil h
    exact trodAll_mk0
  | t :: ts, _, _, _, hr, h, hlt => by
    obtain ⟨v, vs, d, ds, p, q, rfl, rfl, rfl, h1, h2⟩ := trodAll_cons h
    simp only [List.all_cons, Bool.and_eq_true, decide_eq_true_eq] at hr
    exact trodAll_cons_mk (Below.trod hl hr.1.1 hr.1.2 h1 hb fun x hx => hlt x (List.mem_append_left _ hx)) (trodAll_stays hl hb (by simpa using hr.2) h2 fun x hx => hlt x (List.mem_append_right _ hx))

/-- What the row asks of a call that returned true and left everything older as it lay. -/
theorem post_true {H : Type} {enc : TypeId × Value → H} {P : Program} (hl : laidOutB P = true) {f : Func} {s : ChangeSpec} {W W' : World} {args : Array Value} {ds gs : List (DataW H)} {before : List MemPlace} {tb : TypeId}
    (hv : s.vars = []) (hr : f.resultTypes = #[tb]) (hb : P.underlying tb = some .bool) (hp : (f.params.toList.all fun t => P.readableRec t && decide (t < P.types.size)) = true)
    (hW : DataW.Whole enc P f.params.toList s.vars false W args.toList ds gs before) (hfn : s.fn H ds = { results := [.lit (.bool true)], args := ds }) (hg : Below W.heap.size W W') :
    s.post enc P f false true false false W args (.bool true) W' := by
  have hlt := hW.lt
  have hW' := hW
  obtain ⟨p, q, hA, hV, rfl, _, _⟩ := hW
  have hV' := hV
  rw [hv] at hV'
  obtain ⟨rfl, rfl⟩ := trodVars_none hV'
  simp only [List.append_nil] at hlt hW'
  refine ⟨ds, [], p, [], p, [], hW', ?_, ?_, ?_, hg.frame _, fun h => by cases h⟩
  · rw [hr, List.append_nil, hfn]
    exact trodAll_mk1 (shut_bool hb true)
  · rw [List.append_nil, hfn]
    exact trodAll_stays hl hg hp hA hlt
  · rw [List.append_nil, hfn, hv]
    rfl
/-- The witness's world: the settled one with the tables laid. -/
noncomputable def base0R (os : Os) : World := World.holding Tryz.prog os ⟨#[], #[], []⟩
noncomputable def worldLaid (os : Os) : World :=
  { base0R os with heap := (((base0R os).heap.modify 2 fun
      | .cells _ t frozen => .cells #[.int .u8 128, .int .u8 191, .int .u8 160, .int .u8 191, .int .u8 128, .int .u8 159, .int .u8 144, .int .u8 191, .int .u8 128, .int .u8 143, .int .u8 0, .int .u8 0, .int .u8 0, .int .u8 0, .int .u8 0, .int .u8 0, .int .u8 0, .int .u8 0, .int .u8 0, .int .u8 0, .int .u8 0, .int .u8 0, .int .u8 0, .int .u8 0, .int .u8 0, .int .u8 0, .int .u8 0, .int .u8 0, .int .u8 0, .int .u8 0, .int .u8 0, .int .u8 0] t frozen
      | o => o).modify 1 fun
      | .cells _ t frozen => .cells (Pinned.utf8FirstZ.map fun n : Nat => Value.int .u8 (n : Int)).toArray t frozen
      | o => o) }
/-- What the library's own variables hold; the table of the powers of ten is no variable of this program. -/
theorem env_of {L : List (String × DataW Unit)} {W : World} (_h1 : laidMetH Tryz.prog L W) (h2 : W.ShapedOpen Tryz.prog) : Env W :=
  ⟨cell_of_shapedOpen_int (g := 0) (t := 3) (zero := #[.int .i64 0]) h2 (of_decide_eq_true (by kernel_rfl)) (by kernel_rfl) rfl (by kernel_rfl) (by kernel_rfl) Tryz.underlying3,
    fun g h => by rw [show Tryz.prog.globalNamed "internal/strconv.uint64pow10" = none by kernel_rfl] at h; cases h⟩
end Go.Proofs.YtmbpeniaefpljaaGreatDoor

/- What the lists of authorities and relations, the relations and the trees that come in read as. No condition. -/
namespace Go.Proofs.YtmbpeniaefpljaaGreatDoor
open Go.ChangeShapes Go.WideShapes Go.ChangeAt Go.RowKit

theorem spot_none {w : World} {a : Addr} {u : Value} (h : w.cell? a = some u) : a.spot = none := by
  unfold World.cell? at h
  split at h
  · split at h
    · cases h
    · rename_i hs
      cases hz : a.spot with
      | none => rfl
      | some x => rw [hz] at hs; simp at hs
  · cases h
/-- A slice that is led to, whose elements read as things of one kind. -/
theorem open_in {α : Type} {H : Type} {enc : TypeId × Value → H} {P : Program} {W : World} {k n : Nat} {t e : TypeId} {cs : List Value} {x : DataW H × List MemPlace} (f : α → List Value) (Q : α → Prop) (hk : ∀ x, (f x).length = k) (h0 : 0 < k)
    (ht : P.underlying t = some (.slice e)) (hc : P.cellsOf e = k) (hel : ∀ n cs x, DataW.trod enc P W 0 (fun _ => true) true n e cs = some x → ∃ a, cs = f a ∧ Q a)
    (hf : DataW.trod enc P W 0 (fun _ => true) true n t cs = some x) : ∃ v, cs = [v] ∧ ∃ l : List α, Rd W k v (l.flatMap f) ∧ ∀ a ∈ l, Q a := by
  rcases Go.Deep.open_slice ht hf with ⟨hn, -⟩ | ⟨a, len0, cap0, m, n, D, Pl, hn, -, hle, hmx, hm, -, hcell⟩
  · exact ⟨_, hn, [], Rd.nil W k, (fun _ h => by cases h)⟩
  · refine ⟨_, hn, ?_⟩
    simp only [if_true] at hm
    subst hm
    rw [hc] at hcell
    have key : ∀ m, m ≤ len0 → ∃ l : List α, l.length = m ∧ (∀ a ∈ l, Q a) ∧ ∀ i (hi : i < l.length) j, j < k → W.cell? (a.add (i * k + j)) = (f l[i])[j]? := by
      intro m
      induction m with
      | zero => exact fun _ => ⟨[], rfl, (fun _ h => by cases h), fun i hi => absurd hi (Nat.not_lt_zero _)⟩
      | succ m ih =>
        intro hm
        obtain ⟨l, hl, hQ, hr⟩ := ih (by omega)
        obtain ⟨cs', hcs, htr⟩ := hcell m (by omega)
        obtain ⟨x, rfl, hx⟩ := hel _ _ _ htr
        obtain ⟨-, -, hcs⟩ := World.cells?_some hcs
        refine ⟨l ++ [x], by simp [hl], fun b hb => ?_, fun i hi j hj => ?_⟩
        · rcases List.mem_append.1 hb with h | h
          · exact hQ b h
          · rw [List.mem_singleton.1 h]; exact hx
        · by_cases hi' : i < l.length
          · rw [hr i hi' j hj, List.getElem_append_left hi']
          · have : i = m := by simp at hi; omega
            subst this
            have := hcs j hj
            rw [Go.Deep.add_add] at this
            rw [this, List.getElem_append_right (by omega)]
            simp [hl]
    obtain ⟨l, hl, hQ, hr⟩ := key len0 (Nat.le_refl _)
    refine ⟨l, ⟨some a, len0, _, rfl, by rw [flatMap_len f k hk, hl], hle, hmx, fun hpos => ?_⟩, hQ⟩
    have hz := hr 0 (by omega) 0 h0
    have hlt0 : 0 < (f (l[0]'(by omega))).length := by rw [hk]; exact h0
    rw [List.getElem?_eq_getElem hlt0] at hz
    have hsp := spot_none hz
    have ha0 : a.add (0 * k + 0) = a := by simp [Addr.add]
    rw [ha0] at hsp hz
    obtain ⟨b, off, sp⟩ := a
    obtain rfl : sp = none := hsp
    refine ⟨b, off, rfl, World.block_lt_of_cell? W _ hz, fun j u hu => ?_⟩
    have hj : j < len0 * k := by
      have := (List.getElem?_eq_some_iff.1 hu).1
      rwa [flatMap_len f k hk, hl] at this
    have hdiv : j / k < len0 := Nat.div_lt_of_lt_mul (by rw [Nat.mul_comm]; exact hj)
    have hmod : j % k < k := Nat.mod_lt _ h0
    have e : j = j / k * k + j % k := by rw [Nat.mul_comm]; exact (Nat.div_add_mod j k).symm
    have h1 := hr (j / k) (by omega) (j % k) hmod
    rw [add_lit, ← e] at h1
    rw [h1, ← flatMap_get f k hk l (j / k) (j % k) (by omega) hmod, ← e]
    exact hu
section
variable {H : Type} {enc : TypeId × Value → H} {W : World}
set_option maxRecDepth 100000 in
theorem in_int {n : Nat} {cs : List Value} {x : DataW H × List MemPlace} (h : DataW.trod enc Tryz.prog W 0 (fun _ => true) true n 3 cs = some x) : ∃ a : Int, cs = [.int .i64 a] := by
  obtain ⟨a, ha, -⟩ := DataW.trod_int Tryz.underlying3 h
  exact ⟨a, ha⟩
set_option maxRecDepth 100000 in
theorem in_slI {n : Nat} {cs : List Value} {x : DataW H × List MemPlace} (h : DataW.trod enc Tryz.prog W 0 (fun _ => true) true n 22 cs = some x) : ∃ v, cs = [v] ∧ ∃ l, SlI W v l := by
  obtain ⟨v, hv, l, hl, -⟩ := open_in (k := 1) oneI (fun _ => True) (fun _ => rfl) (by omega) Tryz.underlying22 (by kernel_rfl) (fun n cs x hx => by obtain ⟨a, ha⟩ := in_int hx; exact ⟨a, ha, trivial⟩) h
  exact ⟨v, hv, l, hl⟩
theorem choose_list {α β : Type} {R : α → β → Prop} : ∀ l : List α, (∀ a ∈ l, ∃ b, R a b) → ∃ m : List β, l.length = m.length ∧ ∀ i (h : i < l.length) (h' : i < m.length), R l[i] m[i]
  | [], _ => ⟨[], rfl, fun _ h => absurd h (Nat.not_lt_zero _)⟩
  | a :: l, h => by
    obtain ⟨b, hb⟩ := h a (List.mem_cons_self ..)
    obtain ⟨m, hm, hr⟩ := choose_list l (fun x hx => h x (List.mem_cons_of_mem _ hx))
    refine ⟨b :: m, by simp [hm], fun i h1 h2 => ?_⟩
    cases i with
    | zero => exact hb
    | succ i => exact hr i (by simpa using h1) (by simpa using h2)
set_option maxRecDepth 100000 in
theorem in_br {n : Nat} {cs : List Value} {x : DataW H × List MemPlace} (h : DataW.trod enc Tryz.prog W 0 (fun _ => true) true n 86 cs = some x) : ∃ c : BrC, cs = c.cells ∧ ∃ a, BrOk W c a := by
  obtain ⟨xs, m, -, -, hl, hlen, hf⟩ := DataW.trod_struct Tryz.underlying86 h
  have hl4 : cs.length = 6 := hl.trans (by kernel_rfl)
  match xs, hlen with
  | [y0, y1], _ =>
    have h0 := hf 0 _ rfl
    have h1 := hf 1 _ rfl
    match cs, hl4 with
    | [c0, c1, c2, c3, c4, c5], _ =>
      have k0 : Tryz.prog.cellsOf 51 = 5 := by kernel_rfl
      have k4 : Tryz.prog.cellsOf 22 = 1 := by kernel_rfl
      simp only [List.getElem_toArray, List.getElem_cons_zero, List.getElem_cons_succ, k0, k4, List.getElem?_cons_zero, List.getElem?_cons_succ, List.drop_zero, List.drop_succ_cons, List.take_succ_cons, List.take_zero] at h0 h1
      obtain ⟨us, m2, -, -, hl2, hlen2, hg⟩ := DataW.trod_struct Tryz.underlying51 h0
      match us, hlen2 with
      | [z0, z1, z2, z3, z4], _ =>
        have g0 := hg 0 _ rfl
        have g1 := hg 1 _ rfl
        have g2 := hg 2 _ rfl
        have g3 := hg 3 _ rfl
        have g4 := hg 4 _ rfl
        have k1 : Tryz.prog.cellsOf 3 = 1 := by kernel_rfl
        have k2 : Tryz.prog.cellsOf 9 = 1 := by kernel_rfl
        simp only [List.getElem_toArray, List.getElem_cons_zero, List.getElem_cons_succ, k1, k2, List.getElem?_cons_zero, List.getElem?_cons_succ, List.drop_zero, List.drop_succ_cons, List.take_succ_cons, List.take_zero] at g0 g1 g2 g3 g4
        obtain ⟨a, ha⟩ := in_int g0
        obtain ⟨b, hb⟩ := in_int g1
        obtain ⟨c, hc⟩ := in_int g2
        obtain ⟨d, hd, -⟩ := DataW.trod_string Tryz.underlying9 g3
        obtain ⟨e, he, -⟩ := DataW.trod_string Tryz.underlying9 g4
        obtain ⟨kv, hx, ks, hks⟩ := in_slI h1
        simp only [List.cons.injEq, and_true] at ha hb hc hd he hx
        subst ha hb hc hd he hx
        exact ⟨⟨a, b, c, d, e, c5⟩, rfl, ⟨a, b, c, d, e, ks⟩, rfl, hks⟩
set_option maxRecDepth 100000 in
theorem in_slBr {n : Nat} {cs : List Value} {x : DataW H × List MemPlace} (h : DataW.trod enc Tryz.prog W 0 (fun _ => true) true n 23 cs = some x) : ∃ v, cs = [v] ∧ ∃ l, SlBr W v l := by
  obtain ⟨v, hv, l, hl, hQ⟩ := open_in (k := 6) BrC.cells (fun c => ∃ a, BrOk W c a) (fun _ => rfl) (by omega) Tryz.underlying23 (by kernel_rfl) (fun n cs x hx => in_br hx) h
  obtain ⟨m, hm, hr⟩ := choose_list l hQ
  exact ⟨v, hv, m, l, hl, hm, hr⟩
set_option maxRecDepth 100000 in
theorem open_tree {base : Nat} {v : Value} {d : DataW H} {ps : List MemPlace} (hval : Value.okWide Tryz.prog W .any base 25 v) (h : DataW.Trod enc Tryz.prog W 0 (fun _ => true) true 25 v d ps) : ∃ rv bv, v = .agg #[rv, bv] ∧ ∃ t, TrOk W rv bv t := by
  obtain ⟨cs, rfl, -⟩ := okWide_struct Tryz.underlying25 hval
  obtain ⟨fuel, hf⟩ := h
  obtain ⟨xs, m, -, -, hl, hlen, hf⟩ := DataW.trod_struct Tryz.underlying25 hf
  simp only [Value.cells] at hl hf
  obtain ⟨cs⟩ := cs
  have hl4 : cs.length = 2 := hl.trans (by kernel_rfl)
  match xs, hlen with
  | [y0, y1], _ =>
    have h0 := hf 0 _ rfl
    have h1 := hf 1 _ rfl
    match cs, hl4 with
    | [c0, c1], _ =>
      have k1 : Tryz.prog.cellsOf 22 = 1 := by kernel_rfl
      have k2 : Tryz.prog.cellsOf 23 = 1 := by kernel_rfl
      simp only [List.getElem_toArray, List.getElem_cons_zero, List.getElem_cons_succ, k1, k2, List.getElem?_cons_zero, List.getElem?_cons_succ, List.drop_zero, List.drop_succ_cons, List.take_succ_cons, List.take_zero] at h0 h1
      obtain ⟨rv, hrv, rs, hrs⟩ := in_slI h0
      obtain ⟨bv, hbv, bs, hbs⟩ := in_slBr h1
      simp only [List.cons.injEq, and_true] at hrv hbv
      subst hrv hbv
      exact ⟨c0, c1, rfl, ⟨rs, bs⟩, hrs, hbs⟩
end
end Go.Proofs.YtmbpeniaefpljaaGreatDoor

/- What the texts, values and trees that come in read as. No condition. -/
namespace Go.Proofs.YtmbpeniaefpljaaGreatDoor
open Go.ChangeShapes Go.WideShapes Go.ChangeAt Go.RowKit

set_option maxRecDepth 100000 in
theorem open_slS {H : Type} {enc : TypeId × Value → H} {W : World} {base : Nat} {v : Value} {d : DataW H} {ps : List MemPlace} (hval : Value.okWide Tryz.prog W .any base 26 v)
    (h : DataW.Trod enc Tryz.prog W 0 (fun _ => true) true 26 v d ps) : ∃ l, SlS W v l := by
  obtain ⟨a0, len0, cap0, rfl⟩ := okWide_slice Tryz.underlying26 hval
  obtain ⟨fuel, hf⟩ := h
  rcases open_strings Tryz.underlying26 Tryz.underlying9 (by kernel_rfl) hf with ⟨h0, -⟩ | ⟨a, len, cap, ss, h0, -, hle, hmx, hss, -, hcell, -⟩
  · simp only [Value.cells] at h0
    simp at h0
    obtain ⟨rfl, rfl, rfl⟩ := h0
    exact ⟨[], Rd.nil W 1⟩
  · simp only [Value.cells] at h0
    simp at h0
    obtain ⟨rfl, rfl, rfl⟩ := h0
    simp only [if_true] at hss
    refine ⟨ss.take len0, some a, len0, cap0, rfl, ?_, hle, hmx, fun hpos => ?_⟩
    · rw [flatMap_len oneS 1 (fun _ => rfl), List.length_take, hss]
      omega
    · have hz := hcell 0 (by omega)
      have hsp := spot_none hz
      have ha0 : a.add 0 = a := by simp [Addr.add]
      rw [ha0] at hsp
      obtain ⟨b, off, sp⟩ := a
      obtain rfl : sp = none := hsp
      refine ⟨b, off, rfl, ?_, fun j u hu => ?_⟩
      · rw [ha0] at hz
        exact World.block_lt_of_cell? W _ hz
      · have hm : (ss.take len0).flatMap oneS = (ss.take len0).map Value.string := by
          induction ss.take len0 with
          | nil => rfl
          | cons x r ih => simp [List.flatMap_cons, oneS, ih]
        rw [hm, List.getElem?_map, List.getElem?_take] at hu
        by_cases hj : j < len0
        · rw [if_pos hj] at hu
          have hjs : j < ss.length := by omega
          rw [List.getElem?_eq_getElem hjs] at hu
          have hc := hcell j hjs
          rw [add_lit] at hc
          rw [hc]
          simp only [Option.map_some, Option.some.injEq] at hu
          rw [← hu, List.getD_eq_getElem?_getD, List.getElem?_eq_getElem hjs]
          rfl
        · rw [if_neg hj] at hu
          cases hu
/-- A slice that comes in, whose elements read as things of one kind. -/
theorem open_rows {α : Type} {H : Type} {enc : TypeId × Value → H} {P : Program} {W : World} {base k : Nat} {t e : TypeId} {v : Value} {d : DataW H} {ps : List MemPlace} (f : α → List Value) (hk : ∀ x, (f x).length = k) (h0 : 0 < k)
    (ht : P.underlying t = some (.slice e)) (hc : P.cellsOf e = k) (hel : ∀ n cs x, DataW.trod enc P W 0 (fun _ => true) true n e cs = some x → ∃ a, cs = f a)
    (hval : Value.okWide P W .any base t v) (h : DataW.Trod enc P W 0 (fun _ => true) true t v d ps) : ∃ l : List α, Rd W k v (l.flatMap f) := by
  obtain ⟨a0, len0, cap0, rfl⟩ := okWide_slice ht hval
  obtain ⟨fuel, hf⟩ := h
  rcases Go.Deep.open_slice ht hf with ⟨hn, -⟩ | ⟨a, len, cap, m, n, D, Pl, hn, -, hle, hmx, hm, -, hcell⟩
  · simp only [Value.cells] at hn
    simp at hn
    obtain ⟨rfl, rfl, rfl⟩ := hn
    exact ⟨[], Rd.nil W k⟩
  · simp only [Value.cells] at hn
    simp at hn
    obtain ⟨rfl, rfl, rfl⟩ := hn
    simp only [if_true] at hm
    subst hm
    rw [hc] at hcell
    have key : ∀ m, m ≤ len0 → ∃ l : List α, l.length = m ∧ ∀ i (hi : i < l.length) j, j < k → W.cell? (a.add (i * k + j)) = (f l[i])[j]? := by
      intro m
      induction m with
      | zero => exact fun _ => ⟨[], rfl, fun i hi => absurd hi (Nat.not_lt_zero _)⟩
      | succ m ih =>
        intro hm
        obtain ⟨l, hl, hr⟩ := ih (by omega)
        obtain ⟨cs', hcs, htr⟩ := hcell m (by omega)
        obtain ⟨x, rfl⟩ := hel _ _ _ htr
        obtain ⟨-, -, hcs⟩ := World.cells?_some hcs
        refine ⟨l ++ [x], by simp [hl], fun i hi j hj => ?_⟩
        by_cases hi' : i < l.length
        · rw [hr i hi' j hj, List.getElem_append_left hi']
        · have : i = m := by simp at hi; omega
          subst this
          have := hcs j hj
          rw [Go.Deep.add_add] at this
          rw [this, List.getElem_append_right (by omega)]
          simp [hl]
    obtain ⟨l, hl, hr⟩ := key len0 (Nat.le_refl _)
    refine ⟨l, some a, len0, _, rfl, by rw [flatMap_len f k hk, hl], hle, hmx, fun hpos => ?_⟩
    have hz := hr 0 (by omega) 0 h0
    have hlt0 : 0 < (f (l[0]'(by omega))).length := by rw [hk]; exact h0
    rw [List.getElem?_eq_getElem hlt0] at hz
    have hsp := spot_none hz
    have ha0 : a.add (0 * k + 0) = a := by simp [Addr.add]
    rw [ha0] at hsp hz
    obtain ⟨b, off, sp⟩ := a
    obtain rfl : sp = none := hsp
    refine ⟨b, off, rfl, World.block_lt_of_cell? W _ hz, fun j u hu => ?_⟩
    have hj : j < len0 * k := by
      have := (List.getElem?_eq_some_iff.1 hu).1
      rwa [flatMap_len f k hk, hl] at this
    have hdiv : j / k < len0 := Nat.div_lt_of_lt_mul (by rw [Nat.mul_comm]; exact hj)
    have hmod : j % k < k := Nat.mod_lt _ h0
    have e : j = j / k * k + j % k := by rw [Nat.mul_comm]; exact (Nat.div_add_mod j k).symm
    have h1 := hr (j / k) (by omega) (j % k) hmod
    rw [add_lit, ← e] at h1
    rw [h1, ← flatMap_get f k hk l (j / k) (j % k) (by omega) hmod, ← e]
    exact hu

set_option maxRecDepth 100000 in
theorem open_slV {H : Type} {enc : TypeId × Value → H} {W : World} {base : Nat} {v : Value} {d : DataW H} {ps : List MemPlace} (hval : Value.okWide Tryz.prog W .any base 27 v)
    (h : DataW.Trod enc Tryz.prog W 0 (fun _ => true) true 27 v d ps) : ∃ l, SlV W v l := by
  refine open_rows Val.cells (fun _ => rfl) (by omega) Tryz.underlying27 (by kernel_rfl) (fun n cs x hx => ?_) hval h
  obtain ⟨xs, m, -, -, hl, hlen, hf⟩ := DataW.trod_struct Tryz.underlying31 hx
  have hl4 : cs.length = 4 := hl.trans (by kernel_rfl)
  match xs, hlen with
  | [y0, y1, y2, y3], _ =>
    have h0 := hf 0 _ rfl
    have h1 := hf 1 _ rfl
    have h2 := hf 2 _ rfl
    have h3 := hf 3 _ rfl
    match cs, hl4 with
    | [c0, c1, c2, c3], _ =>
      have k1 : Tryz.prog.cellsOf 3 = 1 := by kernel_rfl
      have k2 : Tryz.prog.cellsOf 9 = 1 := by kernel_rfl
      simp only [List.getElem_toArray, List.getElem_cons_zero, List.getElem_cons_succ, k1, k2, List.getElem?_cons_zero, List.getElem?_cons_succ, List.drop_zero, List.drop_succ_cons, List.take_succ_cons, List.take_zero] at h0 h1 h2 h3
      obtain ⟨a, ha, -⟩ := DataW.trod_int Tryz.underlying3 h0
      obtain ⟨b, hb, -⟩ := DataW.trod_int Tryz.underlying3 h1
      obtain ⟨c, hc, -⟩ := DataW.trod_string Tryz.underlying9 h2
      obtain ⟨d, hd, -⟩ := DataW.trod_string Tryz.underlying9 h3
      simp only [List.cons.injEq, and_true] at ha hb hc hd
      subst ha hb hc hd
      exact ⟨⟨a, b, c, d⟩, rfl⟩
theorem byte_nat {x : Int} (h : (Lit.int .u8 x).wf = true) : ∃ n : Nat, x = n ∧ n < 256 := by
  have h2 : 0 ≤ x ∧ x ≤ 255 := by simpa [Lit.wf, IntKind.min, IntKind.max, IntKind.signed, IntKind.bits] using h
  exact ⟨x.toNat, by omega, by omega⟩
end Go.Proofs.YtmbpeniaefpljaaGreatDoor

/- The example of inheritance, plainly. No condition. -/
namespace Go.Proofs.YtmbpeniaefpljaaGreatDoor
open Go.RowKit

def iB : List Br := [⟨1, 0, 1, ⟨#[84, 111, 119, 110]⟩, ⟨#[]⟩, [2, 5]⟩, ⟨2, 1, 2, ⟨#[65, 99, 116, 115]⟩, ⟨#[]⟩, [9]⟩, ⟨5, 1, 2, ⟨#[80, 108, 97, 110, 115]⟩, ⟨#[]⟩, []⟩, ⟨9, 2, 3, ⟨#[77, 105, 108, 108]⟩, ⟨#[]⟩, []⟩]
def iT : Tr := ⟨[1], iB⟩
def sDe : ByteArray := ⟨#[100, 101]⟩
def sEn : ByteArray := ⟨#[101, 110]⟩
def sFr : ByteArray := ⟨#[102, 114]⟩
def iL : List ByteArray := [⟨#[101, 110]⟩, ⟨#[100, 101]⟩]
def iV0 : Val := ⟨1, 4, ⟨#[100, 101]⟩, ⟨#[111, 102, 102, 101, 110]⟩⟩
def iV1 : Val := ⟨1, 4, ⟨#[101, 110]⟩, ⟨#[111, 112, 101, 110]⟩⟩
def iV2 : Val := ⟨2, 4, ⟨#[101, 110]⟩, ⟨#[99, 108, 111, 115, 101, 100]⟩⟩
def iV3 : Val := ⟨9, 4, ⟨#[101, 110]⟩, ⟨#[99, 108, 111, 115, 101, 100]⟩⟩
def iVs : List Val := [iV0, iV1, iV2]
def iVa : List Val := [iV0, iV1, iV2, iV3]
theorem sort25i : sortI [2, 5] = [2, 5] := by
  unfold sortI
  exact List.mergeSort_of_pairwise (by decide)
theorem iBAl0 : BrAlone iB 0 (by decide) := ⟨by decide +kernel, by decide +kernel, fun h => absurd h (by omega), by decide +kernel, fun h => absurd h (by decide +kernel)⟩
theorem iBAl1 : BrAlone iB 1 (by decide) := ⟨by decide +kernel, by decide +kernel, fun _ => by decide +kernel, by decide +kernel, fun h => absurd h (by decide +kernel)⟩
theorem iBAl2 : BrAlone iB 2 (by decide) := ⟨by decide +kernel, by decide +kernel, fun _ => by decide +kernel, by decide +kernel, fun h => absurd h (by decide +kernel)⟩
theorem iBAl3 : BrAlone iB 3 (by decide) := ⟨by decide +kernel, by decide +kernel, fun _ => by decide +kernel, by decide +kernel, fun h => absurd h (by decide +kernel)⟩
theorem iTRight : RightT iT := by
  refine ⟨by decide, fun i h => ?_, fun i h => ?_, fun i h => ?_, by simp [sortI, kidsOf, iB, iT], fun i h => ?_⟩
  · have : i = 0 ∨ i = 1 ∨ i = 2 ∨ i = 3 := by
      have h4 : i < 4 := h
      omega
    rcases this with rfl | rfl | rfl | rfl
    · exact iBAl0
    · exact iBAl1
    · exact iBAl2
    · exact iBAl3
  · have : i = 0 ∨ i = 1 ∨ i = 2 ∨ i = 3 := by
      have h4 : i < 4 := h
      omega
    rcases this with rfl | rfl | rfl | rfl <;> simp [BrPlaced, iB, iT, brFind, fitsF, within]
  · have : i = 0 ∨ i = 1 ∨ i = 2 ∨ i = 3 := by
      have h4 : i < 4 := h
      omega
    rcases this with rfl | rfl | rfl | rfl <;> first | decide +kernel | (simp [sortI, kidsOf, iB, iT]; done) | (rw [show (iT.brs[0]'(by decide)).kids = [2, 5] from rfl, sort25i]; rfl)
  · have : i = 0 ∨ i = 1 ∨ i = 2 ∨ i = 3 := by
      have h4 : i < 4 := h
      omega
    rcases this with rfl | rfl | rfl | rfl
    · exact ⟨1, (by decide +kernel : deep iB 4 (iB[0]'(by decide)) = some 1), by omega⟩
    · exact ⟨2, (by decide +kernel : deep iB 4 (iB[1]'(by decide)) = some 2), by omega⟩
    · exact ⟨2, (by decide +kernel : deep iB 4 (iB[2]'(by decide)) = some 2), by omega⟩
    · exact ⟨3, (by decide +kernel : deep iB 4 (iB[3]'(by decide)) = some 3), by omega⟩
theorem iLok : langsF iL = 0 := by decide +kernel
theorem good_i (v : Val) (h1 : 1 ≤ v.unit) (h2 : v.unit ≤ 1073741824) (h3 : isEl v.elem = true) (h4 : (iL.any fun y => v.lang.data.toList == y.data.toList) = true) (h5 : isTextF v.text.data.toList = true) : goodV iL v := by
  refine ⟨h1, h2, h3, ?_, h5⟩
  unfold inL
  simp only [toList_dataE]
  exact h4
theorem iV0g : goodV iL iV0 := good_i _ (by decide) (by decide) (by decide +kernel) (by decide +kernel) (by decide +kernel)
theorem iV1g : goodV iL iV1 := good_i _ (by decide) (by decide) (by decide +kernel) (by decide +kernel) (by decide +kernel)
theorem iV2g : goodV iL iV2 := good_i _ (by decide) (by decide) (by decide +kernel) (by decide +kernel) (by decide +kernel)
theorem iV3g : goodV iL iV3 := good_i _ (by decide) (by decide) (by decide +kernel) (by decide +kernel) (by decide +kernel)
theorem iV01 : ltV iV0 iV1 := .inr ⟨rfl, .inr ⟨rfl, show Lib.compareBytes _ _ = -1 by decide +kernel⟩⟩
theorem iVsRight : RightV iL iVs := by
  refine ⟨iLok, by decide, fun v hv => ?_, ?_⟩
  · simp only [iVs, List.mem_cons, List.not_mem_nil, or_false] at hv
    rcases hv with rfl | rfl | rfl
    · exact iV0g
    · exact iV1g
    · exact iV2g
  · unfold iVs
    refine List.Pairwise.cons (fun v hv => ?_) (List.Pairwise.cons (fun v hv => ?_) (List.pairwise_singleton _ _))
    · simp only [List.mem_cons, List.not_mem_nil, or_false] at hv
      rcases hv with rfl | rfl
      · exact iV01
      · exact .inl (by decide)
    · simp only [List.mem_cons, List.not_mem_nil, or_false] at hv
      subst hv
      exact .inl (by decide)
theorem iVaRight : RightV iL iVa := by
  refine ⟨iLok, by decide, fun v hv => ?_, ?_⟩
  · simp only [iVa, List.mem_cons, List.not_mem_nil, or_false] at hv
    rcases hv with rfl | rfl | rfl | rfl
    · exact iV0g
    · exact iV1g
    · exact iV2g
    · exact iV3g
  · unfold iVa
    refine List.Pairwise.cons (fun v hv => ?_) (List.Pairwise.cons (fun v hv => ?_) (List.Pairwise.cons (fun v hv => ?_) (List.pairwise_singleton _ _)))
    · simp only [List.mem_cons, List.not_mem_nil, or_false] at hv
      rcases hv with rfl | rfl | rfl
      · exact iV01
      · exact .inl (by decide)
      · exact .inl (by decide)
    · simp only [List.mem_cons, List.not_mem_nil, or_false] at hv
      rcases hv with rfl | rfl
      · exact .inl (by decide)
      · exact .inl (by decide)
    · simp only [List.mem_cons, List.not_mem_nil, or_false] at hv
      subst hv
      exact .inl (by decide)
/-- The same as found and effective, with the bytes of texts compared. -/
def getD (vs : List Val) (u n : Int) (lang : ByteArray) : Option ByteArray := (vs.find? fun x => x.unit == u && (x.elem == n && (x.lang.data.toList == lang.data.toList))).map (·.text)
theorem get_data : getF = getD := by
  funext vs u n lang
  unfold getF getD getP
  simp only [toList_dataE]
def alongD (vs : List Val) (inh : Bool) (n : Int) (lang : ByteArray) : List Int → Option Val
  | [] => none
  | x :: r => match (getD vs x n lang).map fun s => (⟨x, n, lang, s⟩ : Val) with
    | some v => some v
    | none => if inh then alongD vs inh n lang r else none
theorem along_data (vs : List Val) (inh : Bool) (n : Int) (lang : ByteArray) : ∀ w, alongF vs inh n lang w = alongD vs inh n lang w
  | [] => rfl
  | x :: r => by
    unfold alongF alongD ownV
    rw [get_data, along_data vs inh n lang r]
    cases getD vs x n lang <;> rfl
def foundD (l : List Br) (vs : List Val) (u n : Int) (lang : ByteArray) : Option Val := alongD vs (kindOf n).inh n lang (wayL l u)
theorem found_data : foundF = foundD := by
  funext l vs u n lang
  exact along_data _ _ _ _ _
def effD (l : List Br) (ls : List ByteArray) (vs : List Val) (u n : Int) (wt : ByteArray) : Option Val := (front (fun x => x.data.toList == wt.data.toList) ls).findSome? fun lg => foundD l vs u n lg
theorem eff_data {l : List Br} {ls : List ByteArray} {vs : List Val} {u n : Int} {wt : ByteArray} (h : langsF ls = 0) (hw : isLangF wt.data.toList = true) : effF l ls vs u n wt = effD l ls vs u n wt := by
  unfold effF effD orderF
  rw [if_neg (by rw [h]; decide), if_pos hw, found_data]
  unfold ordL
  simp only [toList_dataE]
theorem ask_i {vs : List Val} {u n : Int} {lang : ByteArray} (hv : RightV iL vs) (hu : (brFind iB u).isSome = true) (hn : isEl n = true) (hl : isLangF lang.data.toList = true) : askI iT iL vs u n lang = 0 :=
  askI_zero.2 ⟨⟨iTRight, hv⟩, Option.isSome_iff_exists.1 hu, hn, hl⟩
theorem iF1 : foundR iT iL iVs 9 4 sEn = (some iV2, 0) := by
  unfold foundR
  rw [if_pos (ask_i iVsRight (by decide +kernel) (by decide +kernel) (by decide +kernel)), found_data]
  rfl
theorem iF2 : foundR iT iL iVs 9 4 sDe = (some iV0, 0) := by
  unfold foundR
  rw [if_pos (ask_i iVsRight (by decide +kernel) (by decide +kernel) (by decide +kernel)), found_data]
  rfl
theorem iF3 : effR iT iL iVs 9 4 sFr = (some iV2, 0) := by
  unfold effR
  rw [if_pos (ask_i iVsRight (by decide +kernel) (by decide +kernel) (by decide +kernel)), eff_data iLok (by decide +kernel)]
  rfl
theorem iF4 : redR iT iL iVa = ([3], 0) := by
  unfold redR
  rw [if_pos (ofI_zero.2 ⟨iTRight, iVaRight⟩)]
  unfold redF redB
  simp only [found_data, toList_dataE]
  rfl
theorem iF5 : reachR iT iL iVs 1 4 sEn = ([1, 5], 0) := by
  unfold reachR
  rw [if_pos (ask_i iVsRight (by decide +kernel) (by decide +kernel) (by decide +kernel))]
  unfold reachF
  rw [found_data]
  rfl
theorem iF6 : allR iT iL iVs 9 sDe = ([iV0], 0) := by
  unfold allR
  rw [if_pos (ask_i iVsRight (by decide +kernel) (by decide +kernel) (by decide +kernel))]
  unfold allF
  simp only [eff_data iLok (show isLangF sDe.data.toList = true by decide +kernel)]
  rfl
theorem iF7 : (gapsR iT iL iVa 1).1.length = 4 ∧ (gapsR iT iL iVa 1).2 = 0 := by
  unfold gapsR
  rw [if_neg (by rw [ofI_zero.2 ⟨iTRight, iVaRight⟩]; decide), if_neg (by rw [numI_zero.2 (by decide +kernel)]; decide)]
  unfold gapsF
  simp only [eff_data iLok (show isLangF (iL.headD ⟨#[]⟩).data.toList = true by decide +kernel)]
  exact ⟨rfl, trivial⟩
theorem iFew : FewBr iT.brs := ⟨by decide, fun i h => by
  have : i = 0 ∨ i = 1 ∨ i = 2 ∨ i = 3 := by
    have h4 : i < 4 := h
    omega
  rcases this with rfl | rfl | rfl | rfl <;> simp [iT, iB]⟩
end Go.Proofs.YtmbpeniaefpljaaGreatDoor

/- The example of the chapter of layer 28, walked. No condition. -/
namespace Go.Proofs.YtmbpeniaefpljaaGreatDoor
open Go.RowKit

/-- A call that returns a tree, languages and values. -/
def RetEx (w : World) (e : Ending) (w' : World) : Prop := ∃ rv bv lv vv, e = .returned (.tuple #[.agg #[rv, bv], lv, vv]) ∧ SlI w' rv iT.roots ∧ SlBr w' bv iT.brs ∧ SlS w' lv iL ∧ SlV w' vv iVa ∧ Grew w w'
theorem size_allocX (w : World) (o : Obj) : (w.alloc o).heap.size = w.heap.size + 1 := by simp
/-- The branches of the example as they are laid. -/
theorem iBr (w : World) (t1 t2 t3 : TypeId) : SlBr (((w.alloc (.cells #[.int .i64 2, .int .i64 5] t1)).alloc (.cells #[.int .i64 9] t2)).alloc (.cells #[.int .i64 1, .int .i64 0, .int .i64 1, .string ⟨#[84, 111, 119, 110]⟩, .string ⟨#[]⟩, .slice (some ⟨w.heap.size, 0, none⟩) 2 2, .int .i64 2, .int .i64 1, .int .i64 2, .string ⟨#[65, 99, 116, 115]⟩, .string ⟨#[]⟩, .slice (some ⟨w.heap.size + 1, 0, none⟩) 1 1, .int .i64 5, .int .i64 1, .int .i64 2, .string ⟨#[80, 108, 97, 110, 115]⟩, .string ⟨#[]⟩, .slice none 0 0, .int .i64 9, .int .i64 2, .int .i64 3, .string ⟨#[77, 105, 108, 108]⟩, .string ⟨#[]⟩, .slice none 0 0] t3)) (.slice (some ⟨w.heap.size + 1 + 1, 0, none⟩) 4 4) iB := by
  refine ⟨[⟨1, 0, 1, ⟨#[84, 111, 119, 110]⟩, ⟨#[]⟩, .slice (some ⟨w.heap.size, 0, none⟩) 2 2⟩, ⟨2, 1, 2, ⟨#[65, 99, 116, 115]⟩, ⟨#[]⟩, .slice (some ⟨w.heap.size + 1, 0, none⟩) 1 1⟩, ⟨5, 1, 2, ⟨#[80, 108, 97, 110, 115]⟩, ⟨#[]⟩, .slice none 0 0⟩, ⟨9, 2, 3, ⟨#[77, 105, 108, 108]⟩, ⟨#[]⟩, .slice none 0 0⟩], ?_, rfl, fun i h h' => ?_⟩
  · have := Rd.fresh ((w.alloc (.cells #[.int .i64 2, .int .i64 5] t1)).alloc (.cells #[.int .i64 9] t2)) t3 6 4 [.int .i64 1, .int .i64 0, .int .i64 1, .string ⟨#[84, 111, 119, 110]⟩, .string ⟨#[]⟩, .slice (some ⟨w.heap.size, 0, none⟩) 2 2, .int .i64 2, .int .i64 1, .int .i64 2, .string ⟨#[65, 99, 116, 115]⟩, .string ⟨#[]⟩, .slice (some ⟨w.heap.size + 1, 0, none⟩) 1 1, .int .i64 5, .int .i64 1, .int .i64 2, .string ⟨#[80, 108, 97, 110, 115]⟩, .string ⟨#[]⟩, .slice none 0 0, .int .i64 9, .int .i64 2, .int .i64 3, .string ⟨#[77, 105, 108, 108]⟩, .string ⟨#[]⟩, .slice none 0 0] rfl (by decide)
    rw [size_allocX, size_allocX] at this
    simpa [SlB, BrC.cells] using this
  · have hi : i = 0 ∨ i = 1 ∨ i = 2 ∨ i = 3 := by
      have h4 : i < 4 := h
      omega
    rcases hi with rfl | rfl | rfl | rfl
    · refine ⟨rfl, ?_⟩
      have := Rd.fresh w t1 1 2 [.int .i64 2, .int .i64 5] rfl (by decide)
      exact Rd.mono this (((Grew.refl _).alloc _).alloc _)
    · refine ⟨rfl, ?_⟩
      have := Rd.fresh (w.alloc (.cells #[.int .i64 2, .int .i64 5] t1)) t2 1 1 [.int .i64 9] rfl (by decide)
      rw [size_allocX] at this
      exact Rd.mono this ((Grew.refl _).alloc _)
    · exact ⟨rfl, SlI.nil _⟩
    · exact ⟨rfl, SlI.nil _⟩
set_option maxHeartbeats 8000000 in
set_option maxRecDepth 100000 in
theorem exIn (w : World) : Calls Tryz.prog 37 #[] w (RetEx w) := by
  have hb := iBr ((w.alloc (.cells #[.slice (some ⟨w.heap.size + 1, 0, none⟩) 1 1, .slice (some ⟨w.heap.size + 1 + 1 + 1 + 1, 0, none⟩) 4 4] 25)).alloc (.cells #[.int .i64 1] 3)) 3 3 86
  rw [size_allocX, size_allocX] at hb
  have hr := Rd.fresh (w.alloc (.cells #[.slice (some ⟨w.heap.size + 1, 0, none⟩) 1 1, .slice (some ⟨w.heap.size + 1 + 1 + 1 + 1, 0, none⟩) 4 4] 25)) 3 1 1 [.int .i64 1] rfl (by decide)
  rw [size_allocX] at hr
  have hl := Rd.fresh ((((((w.alloc (.cells #[.slice (some ⟨w.heap.size + 1, 0, none⟩) 1 1, .slice (some ⟨w.heap.size + 1 + 1 + 1 + 1, 0, none⟩) 4 4] 25)).alloc (.cells #[.int .i64 1] 3)).alloc (.cells #[.int .i64 2, .int .i64 5] 3)).alloc (.cells #[.int .i64 9] 3)).alloc (.cells #[.int .i64 1, .int .i64 0, .int .i64 1, .string ⟨#[84, 111, 119, 110]⟩, .string ⟨#[]⟩, .slice (some ⟨w.heap.size + 1 + 1, 0, none⟩) 2 2, .int .i64 2, .int .i64 1, .int .i64 2, .string ⟨#[65, 99, 116, 115]⟩, .string ⟨#[]⟩, .slice (some ⟨w.heap.size + 1 + 1 + 1, 0, none⟩) 1 1, .int .i64 5, .int .i64 1, .int .i64 2, .string ⟨#[80, 108, 97, 110, 115]⟩, .string ⟨#[]⟩, .slice none 0 0, .int .i64 9, .int .i64 2, .int .i64 3, .string ⟨#[77, 105, 108, 108]⟩, .string ⟨#[]⟩, .slice none 0 0] 86)).alloc (.cells #[.slice (some ⟨w.heap.size + 1, 0, none⟩) 1 1, .slice (some ⟨w.heap.size + 1 + 1 + 1 + 1, 0, none⟩) 4 4] 25)) 9 1 2 [.string ⟨#[101, 110]⟩, .string ⟨#[100, 101]⟩] rfl (by decide)
  have hv := Rd.fresh (((((((w.alloc (.cells #[.slice (some ⟨w.heap.size + 1, 0, none⟩) 1 1, .slice (some ⟨w.heap.size + 1 + 1 + 1 + 1, 0, none⟩) 4 4] 25)).alloc (.cells #[.int .i64 1] 3)).alloc (.cells #[.int .i64 2, .int .i64 5] 3)).alloc (.cells #[.int .i64 9] 3)).alloc (.cells #[.int .i64 1, .int .i64 0, .int .i64 1, .string ⟨#[84, 111, 119, 110]⟩, .string ⟨#[]⟩, .slice (some ⟨w.heap.size + 1 + 1, 0, none⟩) 2 2, .int .i64 2, .int .i64 1, .int .i64 2, .string ⟨#[65, 99, 116, 115]⟩, .string ⟨#[]⟩, .slice (some ⟨w.heap.size + 1 + 1 + 1, 0, none⟩) 1 1, .int .i64 5, .int .i64 1, .int .i64 2, .string ⟨#[80, 108, 97, 110, 115]⟩, .string ⟨#[]⟩, .slice none 0 0, .int .i64 9, .int .i64 2, .int .i64 3, .string ⟨#[77, 105, 108, 108]⟩, .string ⟨#[]⟩, .slice none 0 0] 86)).alloc (.cells #[.slice (some ⟨w.heap.size + 1, 0, none⟩) 1 1, .slice (some ⟨w.heap.size + 1 + 1 + 1 + 1, 0, none⟩) 4 4] 25)).alloc (.cells #[.string ⟨#[101, 110]⟩, .string ⟨#[100, 101]⟩] 9)) 31 4 4 [.int .i64 1, .int .i64 4, .string ⟨#[100, 101]⟩, .string ⟨#[111, 102, 102, 101, 110]⟩, .int .i64 1, .int .i64 4, .string ⟨#[101, 110]⟩, .string ⟨#[111, 112, 101, 110]⟩, .int .i64 2, .int .i64 4, .string ⟨#[101, 110]⟩, .string ⟨#[99, 108, 111, 115, 101, 100]⟩, .int .i64 9, .int .i64 4, .string ⟨#[101, 110]⟩, .string ⟨#[99, 108, 111, 115, 101, 100]⟩] rfl (by decide)
  simp only [size_allocX] at hl hv
  have hx : ((((((((w.alloc (.cells #[.slice (some ⟨w.heap.size + 1, 0, none⟩) 1 1, .slice (some ⟨w.heap.size + 1 + 1 + 1 + 1, 0, none⟩) 4 4] 25)).alloc (.cells #[.int .i64 1] 3)).alloc (.cells #[.int .i64 2, .int .i64 5] 3)).alloc (.cells #[.int .i64 9] 3)).alloc (.cells #[.int .i64 1, .int .i64 0, .int .i64 1, .string ⟨#[84, 111, 119, 110]⟩, .string ⟨#[]⟩, .slice (some ⟨w.heap.size + 1 + 1, 0, none⟩) 2 2, .int .i64 2, .int .i64 1, .int .i64 2, .string ⟨#[65, 99, 116, 115]⟩, .string ⟨#[]⟩, .slice (some ⟨w.heap.size + 1 + 1 + 1, 0, none⟩) 1 1, .int .i64 5, .int .i64 1, .int .i64 2, .string ⟨#[80, 108, 97, 110, 115]⟩, .string ⟨#[]⟩, .slice none 0 0, .int .i64 9, .int .i64 2, .int .i64 3, .string ⟨#[77, 105, 108, 108]⟩, .string ⟨#[]⟩, .slice none 0 0] 86)).alloc (.cells #[.slice (some ⟨w.heap.size + 1, 0, none⟩) 1 1, .slice (some ⟨w.heap.size + 1 + 1 + 1 + 1, 0, none⟩) 4 4] 25)).alloc (.cells #[.string ⟨#[101, 110]⟩, .string ⟨#[100, 101]⟩] 9)).alloc (.cells #[.int .i64 1, .int .i64 4, .string ⟨#[100, 101]⟩, .string ⟨#[111, 102, 102, 101, 110]⟩, .int .i64 1, .int .i64 4, .string ⟨#[101, 110]⟩, .string ⟨#[111, 112, 101, 110]⟩, .int .i64 2, .int .i64 4, .string ⟨#[101, 110]⟩, .string ⟨#[99, 108, 111, 115, 101, 100]⟩, .int .i64 9, .int .i64 4, .string ⟨#[101, 110]⟩, .string ⟨#[99, 108, 111, 115, 101, 100]⟩] 31)).heap[w.heap.size]? = some (.cells #[.slice (some ⟨w.heap.size + 1, 0, none⟩) 1 1, .slice (some ⟨w.heap.size + 1 + 1 + 1 + 1, 0, none⟩) 4 4] 25 (0, 0)) := heap_keepI (show Grew (w.alloc (.cells #[.slice (some ⟨w.heap.size + 1, 0, none⟩) 1 1, .slice (some ⟨w.heap.size + 1 + 1 + 1 + 1, 0, none⟩) 4 4] 25)) ((((((((w.alloc (.cells #[.slice (some ⟨w.heap.size + 1, 0, none⟩) 1 1, .slice (some ⟨w.heap.size + 1 + 1 + 1 + 1, 0, none⟩) 4 4] 25)).alloc (.cells #[.int .i64 1] 3)).alloc (.cells #[.int .i64 2, .int .i64 5] 3)).alloc (.cells #[.int .i64 9] 3)).alloc (.cells #[.int .i64 1, .int .i64 0, .int .i64 1, .string ⟨#[84, 111, 119, 110]⟩, .string ⟨#[]⟩, .slice (some ⟨w.heap.size + 1 + 1, 0, none⟩) 2 2, .int .i64 2, .int .i64 1, .int .i64 2, .string ⟨#[65, 99, 116, 115]⟩, .string ⟨#[]⟩, .slice (some ⟨w.heap.size + 1 + 1 + 1, 0, none⟩) 1 1, .int .i64 5, .int .i64 1, .int .i64 2, .string ⟨#[80, 108, 97, 110, 115]⟩, .string ⟨#[]⟩, .slice none 0 0, .int .i64 9, .int .i64 2, .int .i64 3, .string ⟨#[77, 105, 108, 108]⟩, .string ⟨#[]⟩, .slice none 0 0] 86)).alloc (.cells #[.slice (some ⟨w.heap.size + 1, 0, none⟩) 1 1, .slice (some ⟨w.heap.size + 1 + 1 + 1 + 1, 0, none⟩) 4 4] 25)).alloc (.cells #[.string ⟨#[101, 110]⟩, .string ⟨#[100, 101]⟩] 9)).alloc (.cells #[.int .i64 1, .int .i64 4, .string ⟨#[100, 101]⟩, .string ⟨#[111, 102, 102, 101, 110]⟩, .int .i64 1, .int .i64 4, .string ⟨#[101, 110]⟩, .string ⟨#[111, 112, 101, 110]⟩, .int .i64 2, .int .i64 4, .string ⟨#[101, 110]⟩, .string ⟨#[99, 108, 111, 115, 101, 100]⟩, .int .i64 9, .int .i64 4, .string ⟨#[101, 110]⟩, .string ⟨#[99, 108, 111, 115, 101, 100]⟩] 31)) from (((((((Grew.refl _).alloc _).alloc _).alloc _).alloc _).alloc _).alloc _).alloc _) (heap_newI w _)
  have hG : Grew w ((((((((w.alloc (.cells #[.slice (some ⟨w.heap.size + 1, 0, none⟩) 1 1, .slice (some ⟨w.heap.size + 1 + 1 + 1 + 1, 0, none⟩) 4 4] 25)).alloc (.cells #[.int .i64 1] 3)).alloc (.cells #[.int .i64 2, .int .i64 5] 3)).alloc (.cells #[.int .i64 9] 3)).alloc (.cells #[.int .i64 1, .int .i64 0, .int .i64 1, .string ⟨#[84, 111, 119, 110]⟩, .string ⟨#[]⟩, .slice (some ⟨w.heap.size + 1 + 1, 0, none⟩) 2 2, .int .i64 2, .int .i64 1, .int .i64 2, .string ⟨#[65, 99, 116, 115]⟩, .string ⟨#[]⟩, .slice (some ⟨w.heap.size + 1 + 1 + 1, 0, none⟩) 1 1, .int .i64 5, .int .i64 1, .int .i64 2, .string ⟨#[80, 108, 97, 110, 115]⟩, .string ⟨#[]⟩, .slice none 0 0, .int .i64 9, .int .i64 2, .int .i64 3, .string ⟨#[77, 105, 108, 108]⟩, .string ⟨#[]⟩, .slice none 0 0] 86)).alloc (.cells #[.slice (some ⟨w.heap.size + 1, 0, none⟩) 1 1, .slice (some ⟨w.heap.size + 1 + 1 + 1 + 1, 0, none⟩) 4 4] 25)).alloc (.cells #[.string ⟨#[101, 110]⟩, .string ⟨#[100, 101]⟩] 9)).alloc (.cells #[.int .i64 1, .int .i64 4, .string ⟨#[100, 101]⟩, .string ⟨#[111, 102, 102, 101, 110]⟩, .int .i64 1, .int .i64 4, .string ⟨#[101, 110]⟩, .string ⟨#[111, 112, 101, 110]⟩, .int .i64 2, .int .i64 4, .string ⟨#[101, 110]⟩, .string ⟨#[99, 108, 111, 115, 101, 100]⟩, .int .i64 9, .int .i64 4, .string ⟨#[101, 110]⟩, .string ⟨#[99, 108, 111, 115, 101, 100]⟩] 31)) := (((((((Grew.refl w).alloc _).alloc _).alloc _).alloc _).alloc _).alloc _).alloc _ |>.alloc _
  have hT : TrOk ((((((((w.alloc (.cells #[.slice (some ⟨w.heap.size + 1, 0, none⟩) 1 1, .slice (some ⟨w.heap.size + 1 + 1 + 1 + 1, 0, none⟩) 4 4] 25)).alloc (.cells #[.int .i64 1] 3)).alloc (.cells #[.int .i64 2, .int .i64 5] 3)).alloc (.cells #[.int .i64 9] 3)).alloc (.cells #[.int .i64 1, .int .i64 0, .int .i64 1, .string ⟨#[84, 111, 119, 110]⟩, .string ⟨#[]⟩, .slice (some ⟨w.heap.size + 1 + 1, 0, none⟩) 2 2, .int .i64 2, .int .i64 1, .int .i64 2, .string ⟨#[65, 99, 116, 115]⟩, .string ⟨#[]⟩, .slice (some ⟨w.heap.size + 1 + 1 + 1, 0, none⟩) 1 1, .int .i64 5, .int .i64 1, .int .i64 2, .string ⟨#[80, 108, 97, 110, 115]⟩, .string ⟨#[]⟩, .slice none 0 0, .int .i64 9, .int .i64 2, .int .i64 3, .string ⟨#[77, 105, 108, 108]⟩, .string ⟨#[]⟩, .slice none 0 0] 86)).alloc (.cells #[.slice (some ⟨w.heap.size + 1, 0, none⟩) 1 1, .slice (some ⟨w.heap.size + 1 + 1 + 1 + 1, 0, none⟩) 4 4] 25)).alloc (.cells #[.string ⟨#[101, 110]⟩, .string ⟨#[100, 101]⟩] 9)).alloc (.cells #[.int .i64 1, .int .i64 4, .string ⟨#[100, 101]⟩, .string ⟨#[111, 102, 102, 101, 110]⟩, .int .i64 1, .int .i64 4, .string ⟨#[101, 110]⟩, .string ⟨#[111, 112, 101, 110]⟩, .int .i64 2, .int .i64 4, .string ⟨#[101, 110]⟩, .string ⟨#[99, 108, 111, 115, 101, 100]⟩, .int .i64 9, .int .i64 4, .string ⟨#[101, 110]⟩, .string ⟨#[99, 108, 111, 115, 101, 100]⟩] 31)) (.slice (some ⟨w.heap.size + 1, 0, none⟩) 1 1) (.slice (some ⟨w.heap.size + 1 + 1 + 1 + 1, 0, none⟩) 4 4) iT := ⟨Rd.mono hr (((((((Grew.refl _).alloc _).alloc _).alloc _).alloc _).alloc _).alloc _), SlBr.mono hb ((((Grew.refl _).alloc _).alloc _).alloc _)⟩
  obtain ⟨p0, p1⟩ := two_cells hx
  have HT := Lib.hid hT
  have HL := Lib.hid hl
  have HV := Lib.hid hv
  have HG := Lib.hid hG
  clear hb hr hl hv hG hT hx
  go_enter Tryz.func37, Tryz.ntmps37
  go_wp2_with fail
  refine bodyPost_ret (v := .tuple #[.agg #[.slice (some ⟨w.heap.size + 1, 0, none⟩) 1 1, .slice (some ⟨w.heap.size + 1 + 1 + 1 + 1, 0, none⟩) 4 4], .slice (some ⟨w.heap.size + 1 + 1 + 1 + 1 + 1 + 1, 0, none⟩) 2 2, .slice (some ⟨w.heap.size + 1 + 1 + 1 + 1 + 1 + 1 + 1, 0, none⟩) 4 4]) (by simp [results, Tryz.results37, go_sem, p0, p1]) rfl ?_
  exact ⟨_, _, _, _, rfl, HT.out.1, HT.out.2, Rd.mono HL.out ((Grew.refl _).alloc _), HV.out, HG.out⟩
end Go.Proofs.YtmbpeniaefpljaaGreatDoor
