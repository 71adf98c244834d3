/- Lemmas on what the functions of the program and of the library compute: InsV. The conditions stand at each. -/
import Derived.Test.YtjaknioojpgkiaaGreatDoorQ19
import Derived.Test.YtjaknioojpgkiaaGreatDoorQ22
import Derived.Test.YtjaknioojpgkiaaGreatDoorQ8
/- slices.Insert of one value, on a row of the call's own, with a word on all other blocks. No condition but the sizes that a slice can have. -/
namespace Go.Proofs.YtjaknioojpgkiaaGreatDoor
open Go.RowKit

theorem sizeV (w : World) : (Go.sizeOf 29).run Tryz.prog w = .ok 4 w := by kernel_rfl
theorem infoSzV : (Tryz.prog.info? 29).map (·.size) = some 4 := by kernel_rfl
theorem overlapsV (w : World) (g vb o : Nat) (hne : vb ≠ g) (cur xc : List Value) (hg : w.heap[g]? = some (.cells cur.toArray 29 (0, 0))) (hv : w.heap[vb]? = some (.cells xc.toArray 29 (0, 0))) (hpos : 0 < cur.length) (lb cb : Nat) :
    (callFunc 118 #[.slice (some ⟨vb, 0, none⟩) 1 1, .slice (some ⟨g, o, none⟩) lb cb]).run Tryz.prog w = .ok (.value (.bool false)) w := by
  rw [run_callFunc_extern Tryz.func118 (by kernel_rfl) (by kernel_rfl) (by kernel_rfl) (e := Extern.SlicesOverlaps.overlaps #[27, 27] #[4]) (by kernel_rfl),
    Lib.run_overlaps_apart w 27 4 29 Tryz.underlying27 4 sizeV ⟨vb, 0, none⟩ ⟨g, o, none⟩ 1 1 lb cb hne 29 29 xc.toArray.size cur.toArray.size (by simp [World.shape?, hv]) (by simp [World.shape?, hg]) (by simp only [List.size_toArray]; omega) (by simp [World.frozen?, hv]) (by simp [World.frozen?, hv])]
  rfl
set_option maxHeartbeats 4000000 in
set_option maxRecDepth 100000 in
/-- There is room. -/
theorem insShiftV (w0 : World) (g cap n i vb : Nat) (cur p q r xc : List Value) (w : World) (hi : i < n) (hroom : n + 1 ≤ cap) (hc : cap ≤ maxLen) (hne : vb ≠ g) (hG : Grew w0 w) (hbg : w0.heap.size ≤ g)
    (hg : w.heap[g]? = some (.cells cur.toArray 29 (0, 0))) (hcur : cur = p ++ q ++ r) (hp : p.length = i * 4) (hq : q.length = (n - i) * 4) (hr : 4 ≤ r.length) (hcl : cur.length = cap * 4)
    (hv : w.heap[vb]? = some (.cells xc.toArray 29 (0, 0))) (hx : xc.length = 4) (h1c : ∀ v ∈ q, v.oneCell' = true) (h1x : ∀ v ∈ xc, v.oneCell' = true) :
    Calls Tryz.prog 59 #[.slice (some ⟨g, 0, none⟩) n cap, .int .i64 i, .slice (some ⟨vb, 0, none⟩) 1 1] w (RetRow3 29 4 (p ++ xc ++ q) (n + 1) w0.heap.size (.slice (some ⟨g, 0, none⟩) n cap) w) := by
  have hlen : cur.length = i * 4 + (n - i) * 4 + r.length := by rw [hcur]; simp only [List.length_append, hp, hq]
  unfold maxLen at hc
  have hov := fun lb cb => overlapsV w g vb ((i + 1) * 4) hne cur xc hg hv (by omega) lb cb
  have hz1 : ¬ ((i : Int) = (n : Int)) := by omega
  have hb2 : ¬ (cap = i + 1) := by omega
  have hb3 : (i : Int) ≤ (n : Int) + 1 := by omega
  have hb4 : ¬ (cap = i) := by omega
  have hin : i ≤ n := by omega
  have HG0 := Lib.hid hg
  have HV := Lib.hid hv
  have HC := Lib.hid hcur
  have HPQ := Lib.hid (show p.length = i * 4 ∧ q.length = (n - i) * 4 ∧ 4 ≤ r.length ∧ xc.length = 4 from ⟨hp, hq, hr, hx⟩)
  have H1 := Lib.hid (show (∀ v ∈ q, v.oneCell' = true) ∧ (∀ v ∈ xc, v.oneCell' = true) from ⟨h1c, h1x⟩)
  have HCL := Lib.hid hcl
  clear hg hv hcur hp hq hr hx h1c h1x hlen hcl
  go_enter Tryz.func59, Tryz.ntmps59
  go_wp2_with (simp only [hov])
  have hw1 : IntKind.i64.wrap ((i : Int) + 1) = (i : Int) + 1 := IntWalk.i64_in _ (by omega)
  have hb1 : (0 : Int) ≤ (i : Int) + 1 := by omega
  have htn : ((i : Int) + 1).toNat = i + 1 := by omega
  have hb5 : (i : Int) + 1 ≤ (n : Int) + 1 := by omega
  have h0i : (0 : Int) ≤ (i : Int) := by omega
  refine region_still_tail 8 (by kernel_rfl) (by kernel_rfl) ?_
  simp only [List.take_succ_cons, List.take_zero, List.drop_succ_cons, List.drop_zero]
  iterate 8 still_step
  clear hw1 hb1 htn hb5
  refine wpStill_nil ?_
  refine copyK rfl _ _ 27 27 rfl 29 Tryz.underlying27 4 infoSzV g ((i + 1) * 4) (n - i) (cap - (i + 1)) ⟨g, i * 4, none⟩ (n + 1 - i) (cap - i) (by rfl) (by rfl) cur 29 (by have := HG0.out; exact this) q ?_ ?_ ?_ ?_ w0 (by exact hG.drew) hbg ?_
  · rw [HPQ.out.2.1]
    congr 1
    simp only [Nat.min_def]
    split <;> omega
  · intro j v hj
    rw [add_lit]
    refine cells_at HG0.out (i * 4 + j) v ?_
    rw [HC.out, List.append_assoc, ← HPQ.out.1, List.getElem?_append_right (by omega), Nat.add_sub_cancel_left, List.getElem?_append_left (List.getElem?_eq_some_iff.1 hj).1]
    exact hj
  · have h1 := HPQ.out
    rw [HC.out]
    simp only [List.length_append]
    omega
  · exact fun v hv => H1.out.1 v hv
  intro w1 HG1 HW1 HK1
  have hvb1 : w1.heap[vb]? = some (.cells xc.toArray 29 (0, 0)) := (HK1.out vb hne).trans HV.out
  obtain ⟨w2, hrun, hg2, hG2, hk2⟩ := copy_run (P := Tryz.prog) w1 27 27 29 Tryz.underlying27 4 infoSzV g (i * 4) (n + 1 - i) (cap - i) ⟨vb, 0, none⟩ 1 1 _ 29 HG1.out xc (by
      rw [HPQ.out.2.2.2]
      have : Nat.min 1 (n + 1 - i) = 1 := by simp only [Nat.min_def]; split <;> omega
      rw [this]) (fun j v hj => by rw [add_lit, Nat.zero_add]; exact cells_at hvb1 j v hj) (by
      have h1 := HPQ.out
      rw [length_splice _ _ _ (by rw [HC.out]; simp only [List.length_append]; omega), HC.out]
      simp only [List.length_append]
      omega) H1.out.2 w0 HW1.out hbg
  have HFin : RowKit.Hid (w2.ownsRow w0.heap.size 29 4 (.slice (some ⟨g, 0, none⟩) (n + 1) cap) (n + 1) (p ++ xc ++ q)) := by
    have h1 := HPQ.out
    have hs := splice_shift p q r xc (by omega)
    rw [h1.1, h1.2.2.2, ← HC.out, show i * 4 + 4 = (i + 1) * 4 by omega] at hs
    refine own_splice hbg hg2 (by omega) (by unfold maxLen; omega) ?_ (by simp only [List.length_append]; omega) ⟨_, hs⟩
    rw [length_splice _ _ _ (by rw [length_splice _ _ _ (by rw [HC.out]; simp only [List.length_append]; omega), HC.out]; simp only [List.length_append]; omega), length_splice _ _ _ (by rw [HC.out]; simp only [List.length_append]; omega)]
    exact HCL.out
  have HGR := Lib.hid (grown_of hG hG2 hg2 (fun b hb => (hk2 b hb).trans (HK1.out b hb)))
  clear hg2 hG2 hvb1 hk2
  go_wp2
  go_ret
  exact ⟨_, rfl, HFin.out, HGR.out, .inl rfl⟩
/-- The row that append(s[:i], make(..)...) gives where there is no room. -/
theorem zerosV (w : World) (g cap n i : Nat) (cur p q : List Value) (hi : i < n) (hnc : n ≤ cap) (hroom : cap < n + 1) (hn : n ≤ 1000000) (hg : w.heap[g]? = some (.cells cur.toArray 29 (0, 0))) (hcur : ∃ r, cur = p ++ q ++ r) (hp : p.length = i * 4) :
    ∃ (G : Nat) (Z : List Value) (w1 : World), (∀ ty, (Builtin.append_ #[27, 3] ty #[.slice (some ⟨g, 0, none⟩) i cap, .int .i64 ((n : Int) + 1 - (i : Int))]).run Tryz.prog w = .ok (.slice (some ⟨w.heap.size, 0, none⟩) (n + 1) G) w1) ∧
      n + 1 ≤ G ∧ G ≤ maxLen ∧ w1.heap[w.heap.size]? = some (.cells (p ++ Z).toArray 29 (0, 0)) ∧ (n + 1 - i) * 4 ≤ Z.length ∧ i * 4 + Z.length = G * 4 ∧ Grew w w1 := by
  obtain ⟨i0, hi0, hz0, hz1, hz2⟩ := info_parts cinfoV
  obtain ⟨r, hcur⟩ := hcur
  have hkk : (n : Int) + 1 - (i : Int) = ((n + 1 - i : Nat) : Int) := by omega
  have hik : i + (n + 1 - i) = n + 1 := by omega
  have hold : (Builtin.firstCells i0.size i (.slice (some ⟨g, 0, none⟩) i cap)).run Tryz.prog w.drew = .ok p.toArray w.drew := by
    rw [hz1]
    refine run_firstCells_some w.drew 4 i ⟨g, 0, none⟩ i cap p hp (fun j v hj => ?_)
    rw [add_lit, Nat.zero_add]
    refine cells_at (w := w.drew) hg j v ?_
    rw [hcur, List.append_assoc, List.getElem?_append_left (List.getElem?_eq_some_iff.1 hj).1]
    exact hj
  have h := fun ty => Lib.run_append_grow_zeros w 27 3 ty 29 i0 _ .i64 .i64 Tryz.underlying27 Tryz.underlying3 hi0 hz0 (some ⟨g, 0, none⟩) i cap p hold (n + 1 - i) (by omega) (by omega) (by omega) (by omega) (by rw [hz2]; omega) (by rw [hz2, hik]; exact growslice_fits hroom (by omega))
  simp only [hik] at h
  rw [hkk]
  obtain ⟨ZC, hZC⟩ : ∃ ZC, ZC = (Value.agg #[.int .i64 0, .int .i64 0, .string ⟨#[]⟩, .string ⟨#[]⟩]).cells := ⟨_, rfl⟩
  have hZs : ZC.size = 4 := by rw [hZC]; rfl
  rw [← hZC] at h
  refine ⟨_, (Builtin.zeroCells ZC (n + 1 - i) ++ Builtin.zeroCells ZC (grownCap w (n + 1) cap 29 - (n + 1))).toList, _, h, grownCap_ge w _ _ _, grownCap_le_maxLen w (n + 1) cap _ (by unfold maxLen; omega), ?_, ?_, ?_, (Grew.refl w).drew.alloc _⟩
  · have := heap_alloc_last w.drew (.cells (p.toArray ++ Builtin.zeroCells ZC (n + 1 - i) ++ Builtin.zeroCells ZC (grownCap w (n + 1) cap 29 - (n + 1))) 29 (0, 0))
    rw [show (p ++ (Builtin.zeroCells ZC (n + 1 - i) ++ Builtin.zeroCells ZC (grownCap w (n + 1) cap 29 - (n + 1))).toList).toArray = p.toArray ++ Builtin.zeroCells ZC (n + 1 - i) ++ Builtin.zeroCells ZC (grownCap w (n + 1) cap 29 - (n + 1)) by simp [Array.append_assoc]]
    exact this
  · simp [Builtin.zeroCells, hZs]
  · have h9 := grownCap_ge w (n + 1) cap 29
    simp only [Builtin.zeroCells, hZs, Array.toList_append, List.length_append, Array.length_toList, Array.size_map, Array.size_range]
    rw [← Nat.add_assoc, ← Nat.add_mul, ← Nat.add_mul]
    generalize grownCap w (n + 1) cap 29 = X at h9 ⊢
    rw [show i + (n + 1 - i) + (X - (n + 1)) = X by omega]
set_option maxHeartbeats 4000000 in
set_option maxRecDepth 100000 in
/-- There is no room. -/
theorem insGrowV (w0 : World) (g cap n i vb : Nat) (cur p q r xc : List Value) (w : World) (hi : i < n) (hnc : n ≤ cap) (hroom : cap < n + 1) (hn : n ≤ 1000000) (hG : Grew w0 w)
    (hg : w.heap[g]? = some (.cells cur.toArray 29 (0, 0))) (hcur : cur = p ++ q ++ r) (hp : p.length = i * 4) (hq : q.length = (n - i) * 4)
    (hv : w.heap[vb]? = some (.cells xc.toArray 29 (0, 0))) (hx : xc.length = 4) (h1c : ∀ v ∈ q, v.oneCell' = true) (h1x : ∀ v ∈ xc, v.oneCell' = true) :
    Calls Tryz.prog 59 #[.slice (some ⟨g, 0, none⟩) n cap, .int .i64 i, .slice (some ⟨vb, 0, none⟩) 1 1] w (RetRow3 29 4 (p ++ xc ++ q) (n + 1) w0.heap.size (.slice (some ⟨g, 0, none⟩) n cap) w) := by
  obtain ⟨G, Z, w1, hrun1, hG1, hG2, hh1, hZ, hZl, hgr1⟩ := zerosV w g cap n i cur p q hi hnc hroom hn hg ⟨r, hcur⟩ hp
  unfold maxLen at hG2
  have hglt : g < w.heap.size := (Array.getElem?_eq_some_iff.1 hg).1
  have hvlt : vb < w.heap.size := (Array.getElem?_eq_some_iff.1 hv).1
  have hv1 : w1.heap[vb]? = some (.cells xc.toArray 29 (0, 0)) := (hgr1.block vb hvlt).trans hv
  have hg1 : w1.heap[g]? = some (.cells cur.toArray 29 (0, 0)) := (hgr1.block g hglt).trans hg
  have hmin : Nat.min 1 (n + 1 - i) = 1 := by simp only [Nat.min_def]; split <;> omega
  obtain ⟨w2, hrun2, hh2, hgr2, hk2⟩ := copy_run (P := Tryz.prog) w1 27 27 29 Tryz.underlying27 4 infoSzV w.heap.size (i * 4) (n + 1 - i) (G - i) ⟨vb, 0, none⟩ 1 1 _ 29 hh1 xc (by rw [hx, hmin]) (fun j v hj => by rw [add_lit, Nat.zero_add]; exact cells_at hv1 j v hj) (by rw [List.length_append, hp, hx]; omega) h1x w hgr1 (Nat.le_refl _)
  have hg2 : w2.heap[g]? = some (.cells cur.toArray 29 (0, 0)) := (hk2 g (by omega)).trans hg1
  have hz1 : ¬ ((i : Int) = (n : Int)) := by omega
  have hz3 : (cap : Int) < (n : Int) + 1 := by omega
  have hb2 : ¬ (G = i + 1) := by omega
  have hb3 : (i : Int) ≤ (n : Int) + 1 := by omega
  have hb4 : ¬ (cap = i) := by omega
  have hb5 : ¬ (G = i) := by omega
  have hin : i ≤ n := by omega
  have hin2 : (i : Int) ≤ (n : Int) := by omega
  have HR2 := Lib.hid (show w2.heap[w.heap.size]? = _ ∧ w2.heap[g]? = _ ∧ Grew w w2 from ⟨hh2, hg2, hgr2⟩)
  have HC := Lib.hid hcur
  have HPQ := Lib.hid (show p.length = i * 4 ∧ q.length = (n - i) * 4 ∧ xc.length = 4 ∧ (n + 1 - i) * 4 ≤ Z.length ∧ i * 4 + Z.length = G * 4 from ⟨hp, hq, hx, hZ, hZl⟩)
  have H1 := Lib.hid (show (∀ v ∈ q, v.oneCell' = true) ∧ (∀ v ∈ xc, v.oneCell' = true) from ⟨h1c, h1x⟩)
  clear hg hv hcur hp hq hx h1c h1x hh1 hZ hZl hgr1 hv1 hg1 hmin hh2 hgr2 hk2 hg2 hglt hvlt
  obtain ⟨H, hH⟩ : ∃ H, H = w.heap.size := ⟨_, rfl⟩
  rw [← hH] at HR2 hrun1 hrun2
  have HH := Lib.hid hH
  clear hH
  go_enter Tryz.func59, Tryz.ntmps59
  go_wp2_with (at_builtin; refine Lib.wpList_append_run _ rfl _ _ _ _ rfl _ _ rfl rfl _ _ (hrun1 _) ?_)
  have hw1 : IntKind.i64.wrap ((i : Int) + 1) = (i : Int) + 1 := IntWalk.i64_in _ (by omega)
  have hb6 : (0 : Int) ≤ (i : Int) + 1 := by omega
  have htn : ((i : Int) + 1).toNat = i + 1 := by omega
  have hb7 : (i : Int) + 1 ≤ (n : Int) + 1 := by omega
  have h0i : (0 : Int) ≤ (i : Int) := by omega
  refine region_still_tail 8 (by kernel_rfl) (by kernel_rfl) ?_
  simp only [List.take_succ_cons, List.take_zero, List.drop_succ_cons, List.drop_zero]
  iterate 8 still_step
  clear hw1 hb6 htn hb7
  refine wpStill_nil ?_
  refine copyK rfl _ _ 27 27 rfl 29 Tryz.underlying27 4 infoSzV H ((i + 1) * 4) (n - i) (G - (i + 1)) ⟨g, i * 4, none⟩ (n - i) (cap - i) (by rfl) (by rfl) _ 29 (by have := HR2.out.1; exact this) q ?_ ?_ ?_ ?_ w (by exact HR2.out.2.2.drew) (by rw [HH.out]; exact Nat.le_refl _) ?_
  · rw [HPQ.out.2.1]
    congr 1
    simp only [Nat.min_def]
    split <;> omega
  · intro j v hj
    rw [add_lit]
    refine cells_at (w := w2.drew) HR2.out.2.1 (i * 4 + j) v ?_
    rw [HC.out, List.append_assoc, ← HPQ.out.1, List.getElem?_append_right (by omega), Nat.add_sub_cancel_left, List.getElem?_append_left (List.getElem?_eq_some_iff.1 hj).1]
    exact hj
  · have h1 := HPQ.out
    rw [length_splice _ _ _ (by rw [List.length_append]; omega), List.length_append]
    omega
  · exact fun v hv => H1.out.1 v hv
  intro w3 HG3 HW3 HK3
  have HFin : RowKit.Hid (w3.ownsRow w0.heap.size 29 4 (.slice (some ⟨H, 0, none⟩) (n + 1) G) (n + 1) (p ++ xc ++ q)) := by
    have h1 := HPQ.out
    have hs := splice_new p q Z xc
    rw [h1.1, h1.2.2.1, show i * 4 + 4 = (i + 1) * 4 by omega] at hs
    refine own_splice (by rw [HH.out]; exact hG.size) HG3.out (by omega) (by unfold maxLen; omega) ?_ (by simp only [List.length_append]; omega) ⟨_, hs⟩
    rw [length_splice _ _ _ (by rw [length_splice _ _ _ (by rw [List.length_append]; omega), List.length_append]; omega), length_splice _ _ _ (by rw [List.length_append]; omega), List.length_append, h1.1]
    exact h1.2.2.2.2
  go_wp2
  go_ret
  exact ⟨_, rfl, HFin.out, grown_grew HW3.out _, .inr fun b hb => by simp [Value.ownBlock] at hb; rw [← hb, HH.out]; exact Nat.le_refl _⟩
set_option maxHeartbeats 4000000 in
set_option maxRecDepth 100000 in
/-- At the end. -/
theorem insEndV (w0 : World) (n vb : Nat) (xs xc : List Value) (v : Value) (w : World) (hown : w.ownsRow w0.heap.size 29 4 v n xs) (hG : Grew w0 w) (hl : n ≤ 1000000)
    (hv : w.heap[vb]? = some (.cells xc.toArray 29 (0, 0))) (hx : xc.length = 4) (h1x : ∀ v ∈ xc, v.oneCell' = true) :
    Calls Tryz.prog 59 #[v, .int .i64 n, .slice (some ⟨vb, 0, none⟩) 1 1] w (RetRow3 29 4 (xs ++ xc) (n + 1) w0.heap.size v w) := by
  obtain ⟨i0, hi, hz0, hz1, hz2⟩ := info_parts cinfoV
  have HO := Lib.hid hown
  have HV := Lib.hid (fun j u hj => (by rw [Nat.zero_add]; exact cells_at hv j u hj : w.cell? ⟨vb, 0 + j, none⟩ = some u))
  have HX := Lib.hid (show xc.length = 1 * 4 from hx)
  have H1 := Lib.hid h1x
  have hf : ∃ (A : Option Addr) (c : Nat), v = .slice A n c ∧ n ≤ c ∧ c ≤ maxLen ∧ (A = none → n = 0 ∧ c = 0) := by
    rcases hown.2 with ⟨rfl, rfl⟩ | ⟨g, cap, cur, rfl, _, _, h1, h2, _⟩
    · exact ⟨_, _, rfl, Nat.le_refl _, Nat.zero_le _, fun _ => ⟨rfl, rfl⟩⟩
    · exact ⟨_, _, rfl, h1, h2, fun h => by cases h⟩
  obtain ⟨A, c, rfl, hnc, hc, hA⟩ := hf
  unfold maxLen at hc
  clear hown hv hx h1x
  cases A with
  | none =>
    obtain ⟨rfl, rfl⟩ := hA rfl
    clear hA
    go_enter Tryz.func59, Tryz.ntmps59
    go_wp2_with (at_builtin; refine wpList_append_lies _ rfl _ _ 27 rfl w0.heap.size 29 i0 (.agg #[.int .i64 0, .int .i64 0, .string ⟨#[]⟩, .string ⟨#[]⟩]) 4 48 Tryz.underlying27 hi hz0 hz1 hz2 rfl (by omega) _ _ _ (by rfl) HO.out ⟨vb, 0, none⟩ 1 1 xc (by rfl) HX.out (fun j u hj => by rw [add_lit]; exact HV.out j u hj) H1.out (by omega) (by unfold maxLen; omega) (by omega) hG.size w.heap.size rfl ?_; intro g3 cap3 w3 hown3 hgr3 hat3 hlt3)
    go_ret
    exact ⟨_, rfl, hown3, hgr3, hat3.imp (fun h => h.symm) (fun h b hb => by simp [Value.ownBlock] at hb; omega)⟩
  | some a =>
    clear hA
    by_cases hcn : c = n
    · subst hcn
      go_enter Tryz.func59, Tryz.ntmps59
      go_wp2_with (at_builtin; refine wpList_append_lies _ rfl _ _ 27 rfl w0.heap.size 29 i0 (.agg #[.int .i64 0, .int .i64 0, .string ⟨#[]⟩, .string ⟨#[]⟩]) 4 48 Tryz.underlying27 hi hz0 hz1 hz2 rfl (by omega) _ _ _ (by rfl) HO.out ⟨vb, 0, none⟩ 1 1 xc (by rfl) HX.out (fun j u hj => by rw [add_lit]; exact HV.out j u hj) H1.out (by omega) (by unfold maxLen; omega) (by omega) hG.size w.heap.size rfl ?_; intro g3 cap3 w3 hown3 hgr3 hat3 hlt3)
      go_ret
      exact ⟨_, rfl, hown3, hgr3, hat3.imp (fun h => h.symm) (fun h b hb => by simp [Value.ownBlock] at hb; omega)⟩
    · go_enter Tryz.func59, Tryz.ntmps59
      go_wp2_with (at_builtin; refine wpList_append_lies _ rfl _ _ 27 rfl w0.heap.size 29 i0 (.agg #[.int .i64 0, .int .i64 0, .string ⟨#[]⟩, .string ⟨#[]⟩]) 4 48 Tryz.underlying27 hi hz0 hz1 hz2 rfl (by omega) _ _ _ (by rfl) HO.out ⟨vb, 0, none⟩ 1 1 xc (by rfl) HX.out (fun j u hj => by rw [add_lit]; exact HV.out j u hj) H1.out (by omega) (by unfold maxLen; omega) (by omega) hG.size w.heap.size rfl ?_; intro g3 cap3 w3 hown3 hgr3 hat3 hlt3)
      go_ret
      exact ⟨_, rfl, hown3, hgr3, hat3.imp (fun h => h.symm) (fun h b hb => by simp [Value.ownBlock] at hb; omega)⟩
/-- slices.Insert(s, i, x) on a row of the call's own. -/
theorem insertV (w0 : World) (l : List Val) (x : Val) (i vb : Nat) (v : Value) (w : World) (hown : w.ownsRow w0.heap.size 29 4 v l.length (l.flatMap Val.cells)) (hG : Grew w0 w) (hi : i ≤ l.length) (hl : l.length ≤ 1000000)
    (hv : w.heap[vb]? = some (.cells x.cells.toArray 29 (0, 0))) (hne : some vb ≠ v.ownBlock) :
    Calls Tryz.prog 59 #[v, .int .i64 i, .slice (some ⟨vb, 0, none⟩) 1 1] w (RetRow3 29 4 ((l.take i ++ [x] ++ l.drop i).flatMap Val.cells) (l.length + 1) w0.heap.size v w) := by
  have hx1 : ∀ v ∈ x.cells, v.oneCell' = true := fun v hv => one_cellsV [x] v (by simpa using hv)
  have hxl : x.cells.length = 4 := rfl
  obtain ⟨ht, hd⟩ := flat_take (f := Val.cells) (k := 4) (fun _ => rfl) l i
  have hfl := flatMap_len Val.cells 4 (fun _ => rfl) l
  by_cases e : i = l.length
  · subst e
    have := insEndV w0 l.length vb (l.flatMap Val.cells) x.cells v w hown hG hl hv hxl hx1
    simpa [List.flatMap_append] using this
  · rcases hown.2 with ⟨_, h0⟩ | ⟨g, cap, cur, rfl, hbg, hh, h1, h2, h3, h4⟩
    · omega
    have hres : (l.take i ++ [x] ++ l.drop i).flatMap Val.cells = (l.flatMap Val.cells).take (i * 4) ++ x.cells ++ (l.flatMap Val.cells).drop (i * 4) := by
      rw [ht, hd]; simp [List.flatMap_append]
    have hcur : cur.toList = (l.flatMap Val.cells).take (i * 4) ++ (l.flatMap Val.cells).drop (i * 4) ++ cur.toList.drop (l.length * 4) := by
      rw [List.take_append_drop, ← h4, List.take_append_drop]
    have hh' : w.heap[g]? = some (.cells cur.toList.toArray 29 (0, 0)) := by simpa using hh
    have hp : ((l.flatMap Val.cells).take (i * 4)).length = i * 4 := by rw [List.length_take, hfl]; omega
    have hq : ((l.flatMap Val.cells).drop (i * 4)).length = (l.length - i) * 4 := by rw [List.length_drop, hfl]; omega
    have hne' : vb ≠ g := fun h => hne (by rw [h]; rfl)
    have hq1 : ∀ v ∈ (l.flatMap Val.cells).drop (i * 4), v.oneCell' = true := fun v hv => one_cellsV l v (List.mem_of_mem_drop hv)
    rw [hres]
    by_cases hroom : l.length + 1 ≤ cap
    · exact insShiftV w0 g cap l.length i vb _ _ _ _ _ w (by omega) hroom h2 hne' hG hbg hh' hcur hp hq (by rw [List.length_drop, Array.length_toList, h3]; omega) (by simpa using h3) hv hxl hq1 hx1
    · exact insGrowV w0 g cap l.length i vb _ _ _ _ _ w (by omega) h1 (by omega) hl hG hh' hcur hp hq hv hxl hq1 hx1
end Go.Proofs.YtjaknioojpgkiaaGreatDoor
