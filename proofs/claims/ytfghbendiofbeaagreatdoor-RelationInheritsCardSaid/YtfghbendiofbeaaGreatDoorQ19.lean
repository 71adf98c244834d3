/- Lemmas on what the functions of the program and of the library compute: InsR. The conditions stand at each. -/
import Derived.Test.YtfghbendiofbeaaGreatDoorQ18
import Derived.Test.YtfghbendiofbeaaGreatDoorQ8
/- slices.Insert of one relation, on a row of the call's own. No condition but the sizes that a slice can have. -/
namespace Go.Proofs.YtfghbendiofbeaaGreatDoor
open Go.RowKit

theorem sizeR (w : World) : (Go.sizeOf 27).run Tryz.prog w = .ok 5 w := by kernel_rfl
theorem infoSzR : (Tryz.prog.info? 27).map (·.size) = some 5 := by kernel_rfl
theorem overlapsR (w : World) (g vb o : Nat) (hne : vb ≠ g) (cur xc : List Value) (hg : w.heap[g]? = some (.cells cur.toArray 27 (0, 0))) (hv : w.heap[vb]? = some (.cells xc.toArray 27 (0, 0))) (hpos : 0 < cur.length) (lb cb : Nat) :
    (callFunc 89 #[.slice (some ⟨vb, 0, none⟩) 1 1, .slice (some ⟨g, o, none⟩) lb cb]).run Tryz.prog w = .ok (.value (.bool false)) w := by
  rw [run_callFunc_extern Tryz.func89 (by kernel_rfl) (by kernel_rfl) (by kernel_rfl) (e := Extern.SlicesOverlaps.overlaps #[23, 23] #[4]) (by kernel_rfl),
    Lib.run_overlaps_apart w 23 4 27 Tryz.underlying23 5 sizeR ⟨vb, 0, none⟩ ⟨g, o, none⟩ 1 1 lb cb hne 27 27 xc.toArray.size cur.toArray.size (by simp [World.shape?, hv]) (by simp [World.shape?, hg]) (by simp only [List.size_toArray]; omega) (by simp [World.frozen?, hv]) (by simp [World.frozen?, hv])]
  rfl
/-- The slice lies, if anywhere, in a block from n on. -/
def Fresh (n : Nat) (v : Value) : Prop := ∀ k, v.ownBlock = some k → n ≤ k
theorem Fresh.nil (n c d : Nat) : Fresh n (.slice none c d) := fun k hk => by simp [Value.ownBlock] at hk
theorem Fresh.at_ {n b o c d : Nat} {s : Option Nat} (h : n ≤ b) : Fresh n (.slice (some ⟨b, o, s⟩) c d) := fun k hk => by simp [Value.ownBlock] at hk; omega
theorem Fresh.own {w : World} {base : Nat} {e : TypeId} {k : Nat} {v : Value} {n : Nat} {xs : List Value} (h : w.ownsRow base e k v n xs) : Fresh base v := fun k hk => (h.lt k hk).1
theorem Fresh.le {m n : Nat} {v : Value} (h : Fresh n v) (hm : m ≤ n) : Fresh m v := fun k hk => Nat.le_trans hm (h k hk)
def RetOwn (k : Nat) (cs : List Value) (w0 : World) (e : Ending) (w' : World) : Prop := ∃ v, e = .returned v ∧ Rd w' k v cs ∧ Grew w0 w' ∧ Fresh w0.heap.size v
set_option maxHeartbeats 4000000 in
set_option maxRecDepth 100000 in
/-- There is room. -/
theorem insShiftR (w0 : World) (g cap n i vb : Nat) (cur p q r xc : List Value) (w : World) (hi : i < n) (hroom : n + 1 ≤ cap) (hc : cap ≤ maxLen) (hne : vb ≠ g) (hG : Grew w0 w) (hbg : w0.heap.size ≤ g)
    (hg : w.heap[g]? = some (.cells cur.toArray 27 (0, 0))) (hcur : cur = p ++ q ++ r) (hp : p.length = i * 5) (hq : q.length = (n - i) * 5) (hr : 5 ≤ r.length)
    (hv : w.heap[vb]? = some (.cells xc.toArray 27 (0, 0))) (hx : xc.length = 5) (h1c : ∀ v ∈ q, v.oneCell' = true) (h1x : ∀ v ∈ xc, v.oneCell' = true) :
    Calls Tryz.prog 57 #[.slice (some ⟨g, 0, none⟩) n cap, .int .i64 i, .slice (some ⟨vb, 0, none⟩) 1 1] w (RetOwn 5 (p ++ xc ++ q) w0) := by
  have hlen : cur.length = i * 5 + (n - i) * 5 + r.length := by rw [hcur]; simp only [List.length_append, hp, hq]
  unfold maxLen at hc
  have hov := fun lb cb => overlapsR w g vb ((i + 1) * 5) hne cur xc hg hv (by omega) lb cb
  have hz1 : ¬ ((i : Int) = (n : Int)) := by omega
  have hb2 : ¬ (cap = i + 1) := by omega
  have hb3 : (i : Int) ≤ (n : Int) + 1 := by omega
  have hb4 : ¬ (cap = i) := by omega
  have hin : i ≤ n := by omega
  have HG0 := Lib.hid hg
  have HV := Lib.hid hv
  have HC := Lib.hid hcur
  have HPQ := Lib.hid (show p.length = i * 5 ∧ q.length = (n - i) * 5 ∧ 5 ≤ r.length ∧ xc.length = 5 from ⟨hp, hq, hr, hx⟩)
  have H1 := Lib.hid (show (∀ v ∈ q, v.oneCell' = true) ∧ (∀ v ∈ xc, v.oneCell' = true) from ⟨h1c, h1x⟩)
  clear hg hv hcur hp hq hr hx h1c h1x hlen
  go_enter Tryz.func57, Tryz.ntmps57
  go_wp2_with (simp only [hov])
  have hw1 : IntKind.i64.wrap ((i : Int) + 1) = (i : Int) + 1 := IntWalk.i64_in _ (by omega)
  have hb1 : (0 : Int) ≤ (i : Int) + 1 := by omega
  have htn : ((i : Int) + 1).toNat = i + 1 := by omega
  have hb5 : (i : Int) + 1 ≤ (n : Int) + 1 := by omega
  have h0i : (0 : Int) ≤ (i : Int) := by omega
  refine region_still_tail 8 (by kernel_rfl) (by kernel_rfl) ?_
  simp only [List.take_succ_cons, List.take_zero, List.drop_succ_cons, List.drop_zero]
  iterate 8 still_step
  clear hw1 hb1 htn hb5
  refine wpStill_nil ?_
  refine copyK rfl _ _ 23 23 rfl 27 Tryz.underlying23 5 infoSzR g ((i + 1) * 5) (n - i) (cap - (i + 1)) ⟨g, i * 5, none⟩ (n + 1 - i) (cap - i) (by rfl) (by rfl) cur 27 (by have := HG0.out; exact this) q ?_ ?_ ?_ ?_ w0 (by exact hG.drew) hbg ?_
  · rw [HPQ.out.2.1]
    congr 1
    simp only [Nat.min_def]
    split <;> omega
  · intro j v hj
    rw [add_lit]
    refine cells_at HG0.out (i * 5 + j) v ?_
    rw [HC.out, List.append_assoc, ← HPQ.out.1, List.getElem?_append_right (by omega), Nat.add_sub_cancel_left, List.getElem?_append_left (List.getElem?_eq_some_iff.1 hj).1]
    exact hj
  · have h1 := HPQ.out
    rw [HC.out]
    simp only [List.length_append]
    omega
  · exact fun v hv => H1.out.1 v hv
  intro w1 HG1 HW1 HK1
  have hvb1 : w1.heap[vb]? = some (.cells xc.toArray 27 (0, 0)) := (HK1.out vb hne).trans HV.out
  obtain ⟨w2, hrun, hg2, hG2, -⟩ := copy_run (P := Tryz.prog) w1 23 23 27 Tryz.underlying23 5 infoSzR g (i * 5) (n + 1 - i) (cap - i) ⟨vb, 0, none⟩ 1 1 _ 27 HG1.out xc (by
      rw [HPQ.out.2.2.2]
      have : Nat.min 1 (n + 1 - i) = 1 := by simp only [Nat.min_def]; split <;> omega
      rw [this]) (fun j v hj => by rw [add_lit, Nat.zero_add]; exact cells_at hvb1 j v hj) (by
      have h1 := HPQ.out
      rw [length_splice _ _ _ (by rw [HC.out]; simp only [List.length_append]; omega), HC.out]
      simp only [List.length_append]
      omega) H1.out.2 w0 HW1.out hbg
  have HFin : RowKit.Hid (Rd w2 5 (.slice (some ⟨g, 0, none⟩) (n + 1) cap) (p ++ xc ++ q)) := by
    have h1 := HPQ.out
    refine ⟨_, n + 1, cap, rfl, by simp only [List.length_append]; omega, by omega, by unfold maxLen; omega, fun _ => ⟨g, 0, rfl, (Array.getElem?_eq_some_iff.1 hg2).1, fun j v hj => ?_⟩⟩
    rw [Nat.zero_add]
    refine cells_at hg2 j v ?_
    have hs := splice_shift p q r xc (by omega)
    rw [h1.1, h1.2.2.2, ← HC.out, show i * 5 + 5 = (i + 1) * 5 by omega] at hs
    rw [hs, List.getElem?_append_left (List.getElem?_eq_some_iff.1 hj).1]
    exact hj
  have HGF := Lib.hid hG2
  clear hg2 hG2 hvb1
  go_wp2
  go_ret
  exact ⟨_, rfl, HFin.out, HGF.out, Fresh.at_ hbg⟩
/-- The row that append(s[:i], make(..)...) gives where there is no room. -/
theorem zerosR (w : World) (g cap n i : Nat) (cur p q : List Value) (hi : i < n) (hnc : n ≤ cap) (hroom : cap < n + 1) (hn : n ≤ 1000000) (hg : w.heap[g]? = some (.cells cur.toArray 27 (0, 0))) (hcur : ∃ r, cur = p ++ q ++ r) (hp : p.length = i * 5) :
    ∃ (G : Nat) (Z : List Value) (w1 : World), (∀ ty, (Builtin.append_ #[23, 3] ty #[.slice (some ⟨g, 0, none⟩) i cap, .int .i64 ((n : Int) + 1 - (i : Int))]).run Tryz.prog w = .ok (.slice (some ⟨w.heap.size, 0, none⟩) (n + 1) G) w1) ∧
      n + 1 ≤ G ∧ G ≤ maxLen ∧ w1.heap[w.heap.size]? = some (.cells (p ++ Z).toArray 27 (0, 0)) ∧ (n + 1 - i) * 5 ≤ Z.length ∧ Grew w w1 := by
  obtain ⟨i0, hi0, hz0, hz1, hz2⟩ := info_parts cinfoR
  obtain ⟨r, hcur⟩ := hcur
  have hkk : (n : Int) + 1 - (i : Int) = ((n + 1 - i : Nat) : Int) := by omega
  have hik : i + (n + 1 - i) = n + 1 := by omega
  have hold : (Builtin.firstCells i0.size i (.slice (some ⟨g, 0, none⟩) i cap)).run Tryz.prog w.drew = .ok p.toArray w.drew := by
    rw [hz1]
    refine run_firstCells_some w.drew 5 i ⟨g, 0, none⟩ i cap p hp (fun j v hj => ?_)
    rw [add_lit, Nat.zero_add]
    refine cells_at (w := w.drew) hg j v ?_
    rw [hcur, List.append_assoc, List.getElem?_append_left (List.getElem?_eq_some_iff.1 hj).1]
    exact hj
  have h := fun ty => Lib.run_append_grow_zeros w 23 3 ty 27 i0 _ .i64 .i64 Tryz.underlying23 Tryz.underlying3 hi0 hz0 (some ⟨g, 0, none⟩) i cap p hold (n + 1 - i) (by omega) (by omega) (by omega) (by omega) (by rw [hz2]; omega) (by rw [hz2, hik]; exact growslice_fits hroom (by omega))
  simp only [hik] at h
  rw [hkk]
  obtain ⟨ZC, hZC⟩ : ∃ ZC, ZC = (Value.agg #[.int .i64 0, .int .i64 0, .int .i64 0, .int .i64 0, .int .i64 0]).cells := ⟨_, rfl⟩
  have hZs : ZC.size = 5 := by rw [hZC]; rfl
  rw [← hZC] at h
  refine ⟨_, (Builtin.zeroCells ZC (n + 1 - i) ++ Builtin.zeroCells ZC (grownCap w (n + 1) cap 27 - (n + 1))).toList, _, h, grownCap_ge w _ _ _, grownCap_le_maxLen w (n + 1) cap _ (by unfold maxLen; omega), ?_, ?_, (Grew.refl w).drew.alloc _⟩
  · have := heap_alloc_last w.drew (.cells (p.toArray ++ Builtin.zeroCells ZC (n + 1 - i) ++ Builtin.zeroCells ZC (grownCap w (n + 1) cap 27 - (n + 1))) 27 (0, 0))
    rw [show (p ++ (Builtin.zeroCells ZC (n + 1 - i) ++ Builtin.zeroCells ZC (grownCap w (n + 1) cap 27 - (n + 1))).toList).toArray = p.toArray ++ Builtin.zeroCells ZC (n + 1 - i) ++ Builtin.zeroCells ZC (grownCap w (n + 1) cap 27 - (n + 1)) by simp [Array.append_assoc]]
    exact this
  · simp [Builtin.zeroCells, hZs]
set_option maxHeartbeats 4000000 in
set_option maxRecDepth 100000 in
/-- There is no room. -/
theorem insGrowR (w0 : World) (g cap n i vb : Nat) (cur p q r xc : List Value) (w : World) (hi : i < n) (hnc : n ≤ cap) (hroom : cap < n + 1) (hn : n ≤ 1000000) (hG : Grew w0 w)
    (hg : w.heap[g]? = some (.cells cur.toArray 27 (0, 0))) (hcur : cur = p ++ q ++ r) (hp : p.length = i * 5) (hq : q.length = (n - i) * 5)
    (hv : w.heap[vb]? = some (.cells xc.toArray 27 (0, 0))) (hx : xc.length = 5) (h1c : ∀ v ∈ q, v.oneCell' = true) (h1x : ∀ v ∈ xc, v.oneCell' = true) :
    Calls Tryz.prog 57 #[.slice (some ⟨g, 0, none⟩) n cap, .int .i64 i, .slice (some ⟨vb, 0, none⟩) 1 1] w (RetOwn 5 (p ++ xc ++ q) w0) := by
  obtain ⟨G, Z, w1, hrun1, hG1, hG2, hh1, hZ, hgr1⟩ := zerosR w g cap n i cur p q hi hnc hroom hn hg ⟨r, hcur⟩ hp
  unfold maxLen at hG2
  have hglt : g < w.heap.size := (Array.getElem?_eq_some_iff.1 hg).1
  have hvlt : vb < w.heap.size := (Array.getElem?_eq_some_iff.1 hv).1
  have hv1 : w1.heap[vb]? = some (.cells xc.toArray 27 (0, 0)) := (hgr1.block vb hvlt).trans hv
  have hg1 : w1.heap[g]? = some (.cells cur.toArray 27 (0, 0)) := (hgr1.block g hglt).trans hg
  have hmin : Nat.min 1 (n + 1 - i) = 1 := by simp only [Nat.min_def]; split <;> omega
  obtain ⟨w2, hrun2, hh2, hgr2, hk2⟩ := copy_run (P := Tryz.prog) w1 23 23 27 Tryz.underlying23 5 infoSzR w.heap.size (i * 5) (n + 1 - i) (G - i) ⟨vb, 0, none⟩ 1 1 _ 27 hh1 xc (by rw [hx, hmin]) (fun j v hj => by rw [add_lit, Nat.zero_add]; exact cells_at hv1 j v hj) (by rw [List.length_append, hp, hx]; omega) h1x w hgr1 (Nat.le_refl _)
  have hg2 : w2.heap[g]? = some (.cells cur.toArray 27 (0, 0)) := (hk2 g (by omega)).trans hg1
  have hz1 : ¬ ((i : Int) = (n : Int)) := by omega
  have hz3 : (cap : Int) < (n : Int) + 1 := by omega
  have hb2 : ¬ (G = i + 1) := by omega
  have hb3 : (i : Int) ≤ (n : Int) + 1 := by omega
  have hb4 : ¬ (cap = i) := by omega
  have hb5 : ¬ (G = i) := by omega
  have hin : i ≤ n := by omega
  have hin2 : (i : Int) ≤ (n : Int) := by omega
  have HR2 := Lib.hid (show w2.heap[w.heap.size]? = _ ∧ w2.heap[g]? = _ ∧ Grew w w2 from ⟨hh2, hg2, hgr2⟩)
  have HC := Lib.hid hcur
  have HPQ := Lib.hid (show p.length = i * 5 ∧ q.length = (n - i) * 5 ∧ xc.length = 5 ∧ (n + 1 - i) * 5 ≤ Z.length from ⟨hp, hq, hx, hZ⟩)
  have H1 := Lib.hid (show (∀ v ∈ q, v.oneCell' = true) ∧ (∀ v ∈ xc, v.oneCell' = true) from ⟨h1c, h1x⟩)
  clear hg hv hcur hp hq hx h1c h1x hh1 hZ hgr1 hv1 hg1 hmin hh2 hgr2 hk2 hg2 hglt hvlt
  obtain ⟨H, hH⟩ : ∃ H, H = w.heap.size := ⟨_, rfl⟩
  rw [← hH] at HR2 hrun1 hrun2
  have HH := Lib.hid hH
  clear hH
  go_enter Tryz.func57, Tryz.ntmps57
  go_wp2_with (at_builtin; refine Lib.wpList_append_run _ rfl _ _ _ _ rfl _ _ rfl rfl _ _ (hrun1 _) ?_)
  have hw1 : IntKind.i64.wrap ((i : Int) + 1) = (i : Int) + 1 := IntWalk.i64_in _ (by omega)
  have hb6 : (0 : Int) ≤ (i : Int) + 1 := by omega
  have htn : ((i : Int) + 1).toNat = i + 1 := by omega
  have hb7 : (i : Int) + 1 ≤ (n : Int) + 1 := by omega
  have h0i : (0 : Int) ≤ (i : Int) := by omega
  refine region_still_tail 8 (by kernel_rfl) (by kernel_rfl) ?_
  simp only [List.take_succ_cons, List.take_zero, List.drop_succ_cons, List.drop_zero]
  iterate 8 still_step
  clear hw1 hb6 htn hb7
  refine wpStill_nil ?_
  refine copyK rfl _ _ 23 23 rfl 27 Tryz.underlying23 5 infoSzR H ((i + 1) * 5) (n - i) (G - (i + 1)) ⟨g, i * 5, none⟩ (n - i) (cap - i) (by rfl) (by rfl) _ 27 (by have := HR2.out.1; exact this) q ?_ ?_ ?_ ?_ w (by exact HR2.out.2.2.drew) (by rw [HH.out]; exact Nat.le_refl _) ?_
  · rw [HPQ.out.2.1]
    congr 1
    simp only [Nat.min_def]
    split <;> omega
  · intro j v hj
    rw [add_lit]
    refine cells_at (w := w2.drew) HR2.out.2.1 (i * 5 + j) v ?_
    rw [HC.out, List.append_assoc, ← HPQ.out.1, List.getElem?_append_right (by omega), Nat.add_sub_cancel_left, List.getElem?_append_left (List.getElem?_eq_some_iff.1 hj).1]
    exact hj
  · have h1 := HPQ.out
    rw [length_splice _ _ _ (by rw [List.length_append]; omega), List.length_append]
    omega
  · exact fun v hv => H1.out.1 v hv
  intro w3 HG3 HW3 HK3
  have HFin : RowKit.Hid (Rd w3 5 (.slice (some ⟨H, 0, none⟩) (n + 1) G) (p ++ xc ++ q)) := by
    have h1 := HPQ.out
    refine ⟨_, n + 1, G, rfl, by simp only [List.length_append]; omega, by omega, by unfold maxLen; omega, fun _ => ⟨H, 0, rfl, (Array.getElem?_eq_some_iff.1 HG3.out).1, fun j v hj => ?_⟩⟩
    rw [Nat.zero_add]
    refine cells_at HG3.out j v ?_
    have hs := splice_new p q Z xc
    rw [h1.1, h1.2.2.1, show i * 5 + 5 = (i + 1) * 5 by omega] at hs
    rw [hs, List.getElem?_append_left (List.getElem?_eq_some_iff.1 hj).1]
    exact hj
  go_wp2
  go_ret
  exact ⟨_, rfl, HFin.out, hG.trans HW3.out, Fresh.at_ (by rw [HH.out]; exact hG.size)⟩
set_option maxHeartbeats 4000000 in
set_option maxRecDepth 100000 in
/-- At the end. -/
theorem insEndR (w0 : World) (n vb : Nat) (xs xc : List Value) (v : Value) (w : World) (hown : w.ownsRow w0.heap.size 27 5 v n xs) (hG : Grew w0 w) (hl : n ≤ 1000000)
    (hv : w.heap[vb]? = some (.cells xc.toArray 27 (0, 0))) (hx : xc.length = 5) (h1x : ∀ v ∈ xc, v.oneCell' = true) :
    Calls Tryz.prog 57 #[v, .int .i64 n, .slice (some ⟨vb, 0, none⟩) 1 1] w (RetOwn 5 (xs ++ xc) w0) := by
  obtain ⟨i0, hi, hz0, hz1, hz2⟩ := info_parts cinfoR
  have HO := Lib.hid hown
  have HV := Lib.hid (fun j u hj => (by rw [Nat.zero_add]; exact cells_at hv j u hj : w.cell? ⟨vb, 0 + j, none⟩ = some u))
  have HX := Lib.hid (show xc.length = 1 * 5 from hx)
  have H1 := Lib.hid h1x
  have hf : ∃ (A : Option Addr) (c : Nat), v = .slice A n c ∧ n ≤ c ∧ c ≤ maxLen ∧ (A = none → n = 0 ∧ c = 0) := by
    rcases hown.2 with ⟨rfl, rfl⟩ | ⟨g, cap, cur, rfl, _, _, h1, h2, _⟩
    · exact ⟨_, _, rfl, Nat.le_refl _, Nat.zero_le _, fun _ => ⟨rfl, rfl⟩⟩
    · exact ⟨_, _, rfl, h1, h2, fun h => by cases h⟩
  obtain ⟨A, c, rfl, hnc, hc, hA⟩ := hf
  unfold maxLen at hc
  clear hown hv hx h1x
  cases A with
  | none =>
    obtain ⟨rfl, rfl⟩ := hA rfl
    clear hA
    go_enter Tryz.func57, Tryz.ntmps57
    go_wp2_with (at_builtin; refine appN rfl _ _ 23 rfl w0 27 i0 (.agg #[.int .i64 0, .int .i64 0, .int .i64 0, .int .i64 0, .int .i64 0]) 5 40 Tryz.underlying23 hi hz0 hz1 hz2 rfl (by omega) _ _ _ (by rfl) w HO.out hG 1 1 vb 0 xc (by rfl) HX.out HV.out H1.out (by unfold maxLen; omega) (by omega) ?_; intro v' w' hown' hg')
    go_ret
    exact ⟨_, rfl, Rd.of_own hown', hg', Fresh.own hown'⟩
  | some a =>
    clear hA
    by_cases hcn : c = n
    · subst hcn
      go_enter Tryz.func57, Tryz.ntmps57
      go_wp2_with (at_builtin; refine appN rfl _ _ 23 rfl w0 27 i0 (.agg #[.int .i64 0, .int .i64 0, .int .i64 0, .int .i64 0, .int .i64 0]) 5 40 Tryz.underlying23 hi hz0 hz1 hz2 rfl (by omega) _ _ _ (by rfl) w HO.out hG 1 1 vb 0 xc (by rfl) HX.out HV.out H1.out (by unfold maxLen; omega) (by omega) ?_; intro v' w' hown' hg')
      go_ret
      exact ⟨_, rfl, Rd.of_own hown', hg', Fresh.own hown'⟩
    · go_enter Tryz.func57, Tryz.ntmps57
      go_wp2_with (at_builtin; refine appN rfl _ _ 23 rfl w0 27 i0 (.agg #[.int .i64 0, .int .i64 0, .int .i64 0, .int .i64 0, .int .i64 0]) 5 40 Tryz.underlying23 hi hz0 hz1 hz2 rfl (by omega) _ _ _ (by rfl) w HO.out hG 1 1 vb 0 xc (by rfl) HX.out HV.out H1.out (by unfold maxLen; omega) (by omega) ?_; intro v' w' hown' hg')
      go_ret
      exact ⟨_, rfl, Rd.of_own hown', hg', Fresh.own hown'⟩
theorem flat_take {α : Type} {f : α → List Value} {k : Nat} (hk : ∀ x, (f x).length = k) (l : List α) (i : Nat) : (l.flatMap f).take (i * k) = (l.take i).flatMap f ∧ (l.flatMap f).drop (i * k) = (l.drop i).flatMap f := by
  induction l generalizing i with
  | nil => simp
  | cons x r ih =>
    cases i with
    | zero => simp
    | succ i =>
      have e : (i + 1) * k = (f x).length + i * k := by rw [hk, Nat.succ_mul]; omega
      rw [List.flatMap_cons, e, List.take_length_add_append, List.drop_length_add_append, (ih i).1, (ih i).2]
      simp
/-- slices.Insert(s, i, x) on a row of the call's own. -/
theorem insertR (w0 : World) (l : List Rel) (x : Rel) (i vb : Nat) (v : Value) (w : World) (hown : w.ownsRow w0.heap.size 27 5 v l.length (l.flatMap Rel.cells)) (hG : Grew w0 w) (hi : i ≤ l.length) (hl : l.length ≤ 1000000)
    (hv : w.heap[vb]? = some (.cells x.cells.toArray 27 (0, 0))) (hne : some vb ≠ v.ownBlock) :
    Calls Tryz.prog 57 #[v, .int .i64 i, .slice (some ⟨vb, 0, none⟩) 1 1] w (RetOwn 5 ((l.take i ++ [x] ++ l.drop i).flatMap Rel.cells) w0) := by
  have hx1 : ∀ v ∈ x.cells, v.oneCell' = true := fun v hv => one_cellsR [x] v (by simpa using hv)
  have hxl : x.cells.length = 5 := rfl
  obtain ⟨ht, hd⟩ := flat_take (f := Rel.cells) (k := 5) (fun _ => rfl) l i
  have hfl := flatMap_len Rel.cells 5 (fun _ => rfl) l
  by_cases e : i = l.length
  · subst e
    have := insEndR w0 l.length vb (l.flatMap Rel.cells) x.cells v w hown hG hl hv hxl hx1
    simpa [List.flatMap_append] using this
  · rcases hown.2 with ⟨_, h0⟩ | ⟨g, cap, cur, rfl, hbg, hh, h1, h2, h3, h4⟩
    · omega
    have hres : (l.take i ++ [x] ++ l.drop i).flatMap Rel.cells = (l.flatMap Rel.cells).take (i * 5) ++ x.cells ++ (l.flatMap Rel.cells).drop (i * 5) := by
      rw [ht, hd]; simp [List.flatMap_append]
    have hcur : cur.toList = (l.flatMap Rel.cells).take (i * 5) ++ (l.flatMap Rel.cells).drop (i * 5) ++ cur.toList.drop (l.length * 5) := by
      rw [List.take_append_drop, ← h4, List.take_append_drop]
    have hh' : w.heap[g]? = some (.cells cur.toList.toArray 27 (0, 0)) := by simpa using hh
    have hp : ((l.flatMap Rel.cells).take (i * 5)).length = i * 5 := by rw [List.length_take, hfl]; omega
    have hq : ((l.flatMap Rel.cells).drop (i * 5)).length = (l.length - i) * 5 := by rw [List.length_drop, hfl]; omega
    have hne' : vb ≠ g := fun h => hne (by rw [h]; rfl)
    have hq1 : ∀ v ∈ (l.flatMap Rel.cells).drop (i * 5), v.oneCell' = true := fun v hv => one_cellsR l v (List.mem_of_mem_drop hv)
    rw [hres]
    by_cases hroom : l.length + 1 ≤ cap
    · exact insShiftR w0 g cap l.length i vb _ _ _ _ _ w (by omega) hroom h2 hne' hG hbg hh' hcur hp hq (by rw [List.length_drop, Array.length_toList, h3]; omega) hv hxl hq1 hx1
    · exact insGrowR w0 g cap l.length i vb _ _ _ _ _ w (by omega) h1 (by omega) hl hG hh' hcur hp hq hv hxl hq1 hx1
end Go.Proofs.YtfghbendiofbeaaGreatDoor
