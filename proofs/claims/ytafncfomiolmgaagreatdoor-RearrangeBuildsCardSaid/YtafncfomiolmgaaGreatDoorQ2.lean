/- Lemmas on what the functions of the program and of the library compute: InsI, InsB, Nest, PlainN, PlainR, PlainT, PlainH, Shelf2. The conditions stand at each. -/
import Derived.Test.YtafncfomiolmgaaGreatDoorQ1
import Derived.Shelf.GgClosure.StringsIndexFunc
import Derived.Lib.IndexMore
import Derived.Test.YtafncfomiolmgaaGreatDoorProg
import Derived.Shelf.Small.Bits
import Derived.Shelf.Small.Wraps
import Derived.Shelf.LaysM
import Derived.Shelf.Strconv.Itoa3
import Derived.Shelf.Strings.Search3
import Derived.Shelf.Sort.Plain
import Derived.Shelf.Slices.Reverse
import Derived.Ground.Names2Prog
import Derived.Shelf.Slices.CompactI
import Derived.Shelf.Slices.SearchI
import Derived.Shelf.Slices.In.SortNone
/- slices.Insert of one number, on a row of the call's own, with a word on all other blocks. No condition but the sizes that a slice can have. -/
namespace Go.Proofs.YtafncfomiolmgaaGreatDoor
open Go.RowKit

/-- The call returns a slice that owns cs from base on, in the row where s lay or in a new one; all other blocks are as they were. -/
def RetRow3 (e : TypeId) (k : Nat) (cs : List Value) (n base : Nat) (s : Value) (w : World) (x : Ending) (w' : World) : Prop := ∃ v, x = .returned v ∧ w'.ownsRow base e k v n cs ∧ w.grownBy w' s.ownBlock ∧ (v.ownBlock = s.ownBlock ∨ ∀ b, v.ownBlock = some b → w.heap.size ≤ b)
theorem grown_of {w0 w w' : World} {g : Nat} {o : Obj} (h : Grew w0 w) (h' : Grew w0 w') (hg : w'.heap[g]? = some o) (hk : ∀ b, b ≠ g → w'.heap[b]? = w.heap[b]?) : w.grownBy w' (some g) := by
  refine ⟨h'.os.trans h.os.symm, h'.tape.trans h.tape.symm, h'.output.trans h.output.symm, ?_, fun k _ hne => hk k (fun e => hne (by rw [e]))⟩
  refine Nat.le_of_not_lt fun hlt => ?_
  have hgl := (Array.getElem?_eq_some_iff.1 hg).1
  have h1 := hk w'.heap.size (by omega)
  rw [Array.getElem?_eq_none (Nat.le_refl _), Array.getElem?_eq_getElem hlt] at h1
  cases h1
theorem grown_grew {w w' : World} (h : Grew w w') (row : Option Nat) : w.grownBy w' row := ⟨h.os, h.tape, h.output, h.size, fun k hk _ => h.block k hk⟩
theorem grew_trans_grown {a b c : World} {row : Option Nat} (h : Grew a b) (k : b.grownBy c row) : a.grownBy c row := (grown_grew h row).trans k
theorem own_splice {w : World} {g base n cap k : Nat} {e : TypeId} {cur xs : List Value} (hb : base ≤ g) (hg : w.heap[g]? = some (.cells cur.toArray e (0, 0))) (hn : n ≤ cap) (hc : cap ≤ maxLen) (hs : cur.length = cap * k) (hx : xs.length = n * k) (ht : ∃ r, cur = xs ++ r) : w.ownsRow base e k (.slice (some ⟨g, 0, none⟩) n cap) n xs := by
  obtain ⟨r, rfl⟩ := ht
  refine ⟨hx, .inr ⟨g, cap, _, rfl, hb, hg, hn, hc, by simpa using hs, ?_⟩⟩
  rw [← hx]
  simp
theorem sizeI (w : World) : (Go.sizeOf 3).run Tryz.prog w = .ok 1 w := by kernel_rfl
theorem infoSzI : (Tryz.prog.info? 3).map (·.size) = some 1 := by kernel_rfl
theorem overlapsI (w : World) (g vb o : Nat) (hne : vb ≠ g) (cur xc : List Value) (hg : w.heap[g]? = some (.cells cur.toArray 3 (0, 0))) (hv : w.heap[vb]? = some (.cells xc.toArray 3 (0, 0))) (hpos : 0 < cur.length) (lb cb : Nat) :
    (callFunc 173 #[.slice (some ⟨vb, 0, none⟩) 1 1, .slice (some ⟨g, o, none⟩) lb cb]).run Tryz.prog w = .ok (.value (.bool false)) w := by
  rw [run_callFunc_extern Tryz.func173 (by kernel_rfl) (by kernel_rfl) (by kernel_rfl) (e := Extern.SlicesOverlaps.overlaps #[32, 32] #[4]) (by kernel_rfl),
    Lib.run_overlaps_apart w 32 4 3 Tryz.underlying32 1 sizeI ⟨vb, 0, none⟩ ⟨g, o, none⟩ 1 1 lb cb hne 3 3 xc.toArray.size cur.toArray.size (by simp [World.shape?, hv]) (by simp [World.shape?, hg]) (by simp only [List.size_toArray]; omega) (by simp [World.frozen?, hv]) (by simp [World.frozen?, hv])]
  rfl
set_option maxHeartbeats 4000000 in
set_option maxRecDepth 100000 in
/-- There is room. -/
theorem insShiftI (w0 : World) (g cap n i vb : Nat) (cur p q r xc : List Value) (w : World) (hi : i < n) (hroom : n + 1 ≤ cap) (hc : cap ≤ maxLen) (hne : vb ≠ g) (hG : Grew w0 w) (hbg : w0.heap.size ≤ g)
    (hg : w.heap[g]? = some (.cells cur.toArray 3 (0, 0))) (hcur : cur = p ++ q ++ r) (hp : p.length = i) (hq : q.length = (n - i)) (hr : 1 ≤ r.length) (hcl : cur.length = cap)
    (hv : w.heap[vb]? = some (.cells xc.toArray 3 (0, 0))) (hx : xc.length = 1) (h1c : ∀ v ∈ q, v.oneCell' = true) (h1x : ∀ v ∈ xc, v.oneCell' = true) :
    Calls Tryz.prog 137 #[.slice (some ⟨g, 0, none⟩) n cap, .int .i64 i, .slice (some ⟨vb, 0, none⟩) 1 1] w (RetRow3 3 1 (p ++ xc ++ q) (n + 1) w0.heap.size (.slice (some ⟨g, 0, none⟩) n cap) w) := by
  have hlen : cur.length = i + (n - i) + r.length := by rw [hcur]; simp only [List.length_append, hp, hq]
  unfold maxLen at hc
  have hov := fun lb cb => overlapsI w g vb ((i + 1)) hne cur xc hg hv (by omega) lb cb
  have hz1 : ¬ ((i : Int) = (n : Int)) := by omega
  have hb2 : ¬ (cap = i + 1) := by omega
  have hb3 : (i : Int) ≤ (n : Int) + 1 := by omega
  have hb4 : ¬ (cap = i) := by omega
  have hin : i ≤ n := by omega
  have HG0 := Lib.hid hg
  have HV := Lib.hid hv
  have HC := Lib.hid hcur
  have HPQ := Lib.hid (show p.length = i ∧ q.length = (n - i) ∧ 1 ≤ r.length ∧ xc.length = 1 from ⟨hp, hq, hr, hx⟩)
  have H1 := Lib.hid (show (∀ v ∈ q, v.oneCell' = true) ∧ (∀ v ∈ xc, v.oneCell' = true) from ⟨h1c, h1x⟩)
  have HCL := Lib.hid hcl
  clear hg hv hcur hp hq hr hx h1c h1x hlen hcl
  go_enter Tryz.func137, Tryz.ntmps137
  go_wp2_with (simp only [hov])
  have hw1 : IntKind.i64.wrap ((i : Int) + 1) = (i : Int) + 1 := IntWalk.i64_in _ (by omega)
  have hb1 : (0 : Int) ≤ (i : Int) + 1 := by omega
  have htn : ((i : Int) + 1).toNat = i + 1 := by omega
  have hb5 : (i : Int) + 1 ≤ (n : Int) + 1 := by omega
  have h0i : (0 : Int) ≤ (i : Int) := by omega
  refine region_still_tail 8 (by kernel_rfl) (by kernel_rfl) ?_
  simp only [List.take_succ_cons, List.take_zero, List.drop_succ_cons, List.drop_zero]
  iterate 8 still_step
  clear hw1 hb1 htn hb5
  refine wpStill_nil ?_
  refine copyK rfl _ _ 32 32 rfl 3 Tryz.underlying32 1 infoSzI g ((i + 1)) (n - i) (cap - (i + 1)) ⟨g, i, none⟩ (n + 1 - i) (cap - i) (by rfl) (by rfl) cur 3 (by have := HG0.out; exact this) q ?_ ?_ ?_ ?_ w0 (by exact hG.drew) hbg ?_
  · rw [HPQ.out.2.1]
    congr 1
    simp only [Nat.min_def]
    split <;> omega
  · intro j v hj
    rw [add_lit]
    refine cells_at HG0.out (i + j) v ?_
    rw [HC.out, List.append_assoc, ← HPQ.out.1, List.getElem?_append_right (by omega), Nat.add_sub_cancel_left, List.getElem?_append_left (List.getElem?_eq_some_iff.1 hj).1]
    exact hj
  · have h1 := HPQ.out
    rw [HC.out]
    simp only [List.length_append]
    omega
  · exact fun v hv => H1.out.1 v hv
  intro w1 HG1 HW1 HK1
  have hvb1 : w1.heap[vb]? = some (.cells xc.toArray 3 (0, 0)) := (HK1.out vb hne).trans HV.out
  obtain ⟨w2, hrun, hg2, hG2, hk2⟩ := copy_run (P := Tryz.prog) w1 32 32 3 Tryz.underlying32 1 infoSzI g (i) (n + 1 - i) (cap - i) ⟨vb, 0, none⟩ 1 1 _ 3 HG1.out xc (by
      rw [HPQ.out.2.2.2]
      have : Nat.min 1 (n + 1 - i) = 1 := by simp only [Nat.min_def]; split <;> omega
      rw [this]) (fun j v hj => by rw [add_lit, Nat.zero_add]; exact cells_at hvb1 j v hj) (by
      have h1 := HPQ.out
      rw [length_splice _ _ _ (by rw [HC.out]; simp only [List.length_append]; omega), HC.out]
      simp only [List.length_append]
      omega) H1.out.2 w0 HW1.out hbg
  have HFin : RowKit.Hid (w2.ownsRow w0.heap.size 3 1 (.slice (some ⟨g, 0, none⟩) (n + 1) cap) (n + 1) (p ++ xc ++ q)) := by
    have h1 := HPQ.out
    have hs := splice_shift p q r xc (by omega)
    rw [h1.1, h1.2.2.2, ← HC.out, show i + 1 = (i + 1) by omega] at hs
    refine own_splice hbg hg2 (by omega) (by unfold maxLen; omega) ?_ (by simp only [List.length_append]; omega) ⟨_, hs⟩
    rw [length_splice _ _ _ (by rw [length_splice _ _ _ (by rw [HC.out]; simp only [List.length_append]; omega), HC.out]; simp only [List.length_append]; omega), length_splice _ _ _ (by rw [HC.out]; simp only [List.length_append]; omega)]
    have := HCL.out
    omega
  have HGR := Lib.hid (grown_of hG hG2 hg2 (fun b hb => (hk2 b hb).trans (HK1.out b hb)))
  clear hg2 hG2 hvb1 hk2
  go_wp2
  go_ret
  exact ⟨_, rfl, HFin.out, HGR.out, .inl rfl⟩
/-- The row that append(s[:i], make(..)...) gives where there is no room. -/
theorem zerosI (w : World) (g cap n i : Nat) (cur p q : List Value) (hi : i < n) (hnc : n ≤ cap) (hroom : cap < n + 1) (hn : n ≤ 1000000) (hg : w.heap[g]? = some (.cells cur.toArray 3 (0, 0))) (hcur : ∃ r, cur = p ++ q ++ r) (hp : p.length = i) :
    ∃ (G : Nat) (Z : List Value) (w1 : World), (∀ ty, (Builtin.append_ #[32, 3] ty #[.slice (some ⟨g, 0, none⟩) i cap, .int .i64 ((n : Int) + 1 - (i : Int))]).run Tryz.prog w = .ok (.slice (some ⟨w.heap.size, 0, none⟩) (n + 1) G) w1) ∧
      n + 1 ≤ G ∧ G ≤ maxLen ∧ w1.heap[w.heap.size]? = some (.cells (p ++ Z).toArray 3 (0, 0)) ∧ (n + 1 - i) ≤ Z.length ∧ i + Z.length = G ∧ Grew w w1 := by
  obtain ⟨i0, hi0, hz0, hz1, hz2⟩ := info_parts cinfoI
  obtain ⟨r, hcur⟩ := hcur
  have hkk : (n : Int) + 1 - (i : Int) = ((n + 1 - i : Nat) : Int) := by omega
  have hik : i + (n + 1 - i) = n + 1 := by omega
  have hold : (Builtin.firstCells i0.size i (.slice (some ⟨g, 0, none⟩) i cap)).run Tryz.prog w.drew = .ok p.toArray w.drew := by
    rw [hz1]
    refine run_firstCells_some w.drew 1 i ⟨g, 0, none⟩ i cap p (by omega) (fun j v hj => ?_)
    rw [add_lit, Nat.zero_add]
    refine cells_at (w := w.drew) hg j v ?_
    rw [hcur, List.append_assoc, List.getElem?_append_left (List.getElem?_eq_some_iff.1 hj).1]
    exact hj
  have h := fun ty => Lib.run_append_grow_zeros w 32 3 ty 3 i0 _ .i64 .i64 Tryz.underlying32 Tryz.underlying3 hi0 hz0 (some ⟨g, 0, none⟩) i cap p hold (n + 1 - i) (by omega) (by omega) (by omega) (by omega) (by rw [hz2]; omega) (by rw [hz2, hik]; exact growslice_fits hroom (by omega))
  simp only [hik] at h
  rw [hkk]
  obtain ⟨ZC, hZC⟩ : ∃ ZC, ZC = (Value.int .i64 0).cells := ⟨_, rfl⟩
  have hZs : ZC.size = 1 := by rw [hZC]; rfl
  rw [← hZC] at h
  refine ⟨_, (Builtin.zeroCells ZC (n + 1 - i) ++ Builtin.zeroCells ZC (grownCap w (n + 1) cap 3 - (n + 1))).toList, _, h, grownCap_ge w _ _ _, grownCap_le_maxLen w (n + 1) cap _ (by unfold maxLen; omega), ?_, ?_, ?_, (Grew.refl w).drew.alloc _⟩
  · have := heap_alloc_last w.drew (.cells (p.toArray ++ Builtin.zeroCells ZC (n + 1 - i) ++ Builtin.zeroCells ZC (grownCap w (n + 1) cap 3 - (n + 1))) 3 (0, 0))
    rw [show (p ++ (Builtin.zeroCells ZC (n + 1 - i) ++ Builtin.zeroCells ZC (grownCap w (n + 1) cap 3 - (n + 1))).toList).toArray = p.toArray ++ Builtin.zeroCells ZC (n + 1 - i) ++ Builtin.zeroCells ZC (grownCap w (n + 1) cap 3 - (n + 1)) by simp [Array.append_assoc]]
    exact this
  · simp [Builtin.zeroCells, hZs]
  · have h9 := grownCap_ge w (n + 1) cap 3
    simp only [Builtin.zeroCells, hZs, Array.toList_append, List.length_append, Array.length_toList, Array.size_map, Array.size_range]
    omega
set_option maxHeartbeats 4000000 in
set_option maxRecDepth 100000 in
/-- There is no room. -/
theorem insGrowI (w0 : World) (g cap n i vb : Nat) (cur p q r xc : List Value) (w : World) (hi : i < n) (hnc : n ≤ cap) (hroom : cap < n + 1) (hn : n ≤ 1000000) (hG : Grew w0 w)
    (hg : w.heap[g]? = some (.cells cur.toArray 3 (0, 0))) (hcur : cur = p ++ q ++ r) (hp : p.length = i) (hq : q.length = (n - i))
    (hv : w.heap[vb]? = some (.cells xc.toArray 3 (0, 0))) (hx : xc.length = 1) (h1c : ∀ v ∈ q, v.oneCell' = true) (h1x : ∀ v ∈ xc, v.oneCell' = true) :
    Calls Tryz.prog 137 #[.slice (some ⟨g, 0, none⟩) n cap, .int .i64 i, .slice (some ⟨vb, 0, none⟩) 1 1] w (RetRow3 3 1 (p ++ xc ++ q) (n + 1) w0.heap.size (.slice (some ⟨g, 0, none⟩) n cap) w) := by
  obtain ⟨G, Z, w1, hrun1, hG1, hG2, hh1, hZ, hZl, hgr1⟩ := zerosI w g cap n i cur p q hi hnc hroom hn hg ⟨r, hcur⟩ hp
  unfold maxLen at hG2
  have hglt : g < w.heap.size := (Array.getElem?_eq_some_iff.1 hg).1
  have hvlt : vb < w.heap.size := (Array.getElem?_eq_some_iff.1 hv).1
  have hv1 : w1.heap[vb]? = some (.cells xc.toArray 3 (0, 0)) := (hgr1.block vb hvlt).trans hv
  have hg1 : w1.heap[g]? = some (.cells cur.toArray 3 (0, 0)) := (hgr1.block g hglt).trans hg
  have hmin : Nat.min 1 (n + 1 - i) = 1 := by simp only [Nat.min_def]; split <;> omega
  obtain ⟨w2, hrun2, hh2, hgr2, hk2⟩ := copy_run (P := Tryz.prog) w1 32 32 3 Tryz.underlying32 1 infoSzI w.heap.size (i) (n + 1 - i) (G - i) ⟨vb, 0, none⟩ 1 1 _ 3 hh1 xc (by rw [hx, hmin]) (fun j v hj => by rw [add_lit, Nat.zero_add]; exact cells_at hv1 j v hj) (by rw [List.length_append, hp, hx]; omega) h1x w hgr1 (Nat.le_refl _)
  have hg2 : w2.heap[g]? = some (.cells cur.toArray 3 (0, 0)) := (hk2 g (by omega)).trans hg1
  have hz1 : ¬ ((i : Int) = (n : Int)) := by omega
  have hz3 : (cap : Int) < (n : Int) + 1 := by omega
  have hb2 : ¬ (G = i + 1) := by omega
  have hb3 : (i : Int) ≤ (n : Int) + 1 := by omega
  have hb4 : ¬ (cap = i) := by omega
  have hb5 : ¬ (G = i) := by omega
  have hin : i ≤ n := by omega
  have hin2 : (i : Int) ≤ (n : Int) := by omega
  have HR2 := Lib.hid (show w2.heap[w.heap.size]? = _ ∧ w2.heap[g]? = _ ∧ Grew w w2 from ⟨hh2, hg2, hgr2⟩)
  have HC := Lib.hid hcur
  have HPQ := Lib.hid (show p.length = i ∧ q.length = (n - i) ∧ xc.length = 1 ∧ (n + 1 - i) ≤ Z.length ∧ i + Z.length = G from ⟨hp, hq, hx, hZ, hZl⟩)
  have H1 := Lib.hid (show (∀ v ∈ q, v.oneCell' = true) ∧ (∀ v ∈ xc, v.oneCell' = true) from ⟨h1c, h1x⟩)
  clear hg hv hcur hp hq hx h1c h1x hh1 hZ hZl hgr1 hv1 hg1 hmin hh2 hgr2 hk2 hg2 hglt hvlt
  obtain ⟨H, hH⟩ : ∃ H, H = w.heap.size := ⟨_, rfl⟩
  rw [← hH] at HR2 hrun1 hrun2
  have HH := Lib.hid hH
  clear hH
  go_enter Tryz.func137, Tryz.ntmps137
  go_wp2_with (at_builtin; refine Lib.wpList_append_run _ rfl _ _ _ _ rfl _ _ rfl rfl _ _ (hrun1 _) ?_)
  have hw1 : IntKind.i64.wrap ((i : Int) + 1) = (i : Int) + 1 := IntWalk.i64_in _ (by omega)
  have hb6 : (0 : Int) ≤ (i : Int) + 1 := by omega
  have htn : ((i : Int) + 1).toNat = i + 1 := by omega
  have hb7 : (i : Int) + 1 ≤ (n : Int) + 1 := by omega
  have h0i : (0 : Int) ≤ (i : Int) := by omega
  refine region_still_tail 8 (by kernel_rfl) (by kernel_rfl) ?_
  simp only [List.take_succ_cons, List.take_zero, List.drop_succ_cons, List.drop_zero]
  iterate 8 still_step
  clear hw1 hb6 htn hb7
  refine wpStill_nil ?_
  refine copyK rfl _ _ 32 32 rfl 3 Tryz.underlying32 1 infoSzI H ((i + 1)) (n - i) (G - (i + 1)) ⟨g, i, none⟩ (n - i) (cap - i) (by rfl) (by rfl) _ 3 (by have := HR2.out.1; exact this) q ?_ ?_ ?_ ?_ w (by exact HR2.out.2.2.drew) (by rw [HH.out]; exact Nat.le_refl _) ?_
  · rw [HPQ.out.2.1]
    congr 1
    simp only [Nat.min_def]
    split <;> omega
  · intro j v hj
    rw [add_lit]
    refine cells_at (w := w2.drew) HR2.out.2.1 (i + j) v ?_
    rw [HC.out, List.append_assoc, ← HPQ.out.1, List.getElem?_append_right (by omega), Nat.add_sub_cancel_left, List.getElem?_append_left (List.getElem?_eq_some_iff.1 hj).1]
    exact hj
  · have h1 := HPQ.out
    rw [length_splice _ _ _ (by rw [List.length_append]; omega), List.length_append]
    omega
  · exact fun v hv => H1.out.1 v hv
  intro w3 HG3 HW3 HK3
  have HFin : RowKit.Hid (w3.ownsRow w0.heap.size 3 1 (.slice (some ⟨H, 0, none⟩) (n + 1) G) (n + 1) (p ++ xc ++ q)) := by
    have h1 := HPQ.out
    have hs := splice_new p q Z xc
    rw [h1.1, h1.2.2.1, show i + 1 = (i + 1) by omega] at hs
    refine own_splice (by rw [HH.out]; exact hG.size) HG3.out (by omega) (by unfold maxLen; omega) ?_ (by simp only [List.length_append]; omega) ⟨_, hs⟩
    rw [length_splice _ _ _ (by rw [length_splice _ _ _ (by rw [List.length_append]; omega), List.length_append]; omega), length_splice _ _ _ (by rw [List.length_append]; omega), List.length_append, h1.1]
    have := h1.2.2.2.2
    omega
  go_wp2
  go_ret
  exact ⟨_, rfl, HFin.out, grown_grew HW3.out _, .inr fun b hb => by simp [Value.ownBlock] at hb; rw [← hb, HH.out]; exact Nat.le_refl _⟩
set_option maxHeartbeats 4000000 in
set_option maxRecDepth 100000 in
/-- At the end. -/
theorem insEndI (w0 : World) (n vb : Nat) (xs xc : List Value) (v : Value) (w : World) (hown : w.ownsRow w0.heap.size 3 1 v n xs) (hG : Grew w0 w) (hl : n ≤ 1000000)
    (hv : w.heap[vb]? = some (.cells xc.toArray 3 (0, 0))) (hx : xc.length = 1) (h1x : ∀ v ∈ xc, v.oneCell' = true) :
    Calls Tryz.prog 137 #[v, .int .i64 n, .slice (some ⟨vb, 0, none⟩) 1 1] w (RetRow3 3 1 (xs ++ xc) (n + 1) w0.heap.size v w) := by
  obtain ⟨i0, hi, hz0, hz1, hz2⟩ := info_parts cinfoI
  have HO := Lib.hid hown
  have HV := Lib.hid (fun j u hj => (by rw [Nat.zero_add]; exact cells_at hv j u hj : w.cell? ⟨vb, 0 + j, none⟩ = some u))
  have HX := Lib.hid (show xc.length = 1 * 1 from hx)
  have H1 := Lib.hid h1x
  have hf : ∃ (A : Option Addr) (c : Nat), v = .slice A n c ∧ n ≤ c ∧ c ≤ maxLen ∧ (A = none → n = 0 ∧ c = 0) := by
    rcases hown.2 with ⟨rfl, rfl⟩ | ⟨g, cap, cur, rfl, _, _, h1, h2, _⟩
    · exact ⟨_, _, rfl, Nat.le_refl _, Nat.zero_le _, fun _ => ⟨rfl, rfl⟩⟩
    · exact ⟨_, _, rfl, h1, h2, fun h => by cases h⟩
  obtain ⟨A, c, rfl, hnc, hc, hA⟩ := hf
  unfold maxLen at hc
  clear hown hv hx h1x
  cases A with
  | none =>
    obtain ⟨rfl, rfl⟩ := hA rfl
    clear hA
    go_enter Tryz.func137, Tryz.ntmps137
    go_wp2_with (at_builtin; refine wpList_append_lies _ rfl _ _ 32 rfl w0.heap.size 3 i0 (.int .i64 0) 1 8 Tryz.underlying32 hi hz0 hz1 hz2 rfl (by omega) _ _ _ (by rfl) HO.out ⟨vb, 0, none⟩ 1 1 xc (by rfl) HX.out (fun j u hj => by rw [add_lit]; exact HV.out j u hj) H1.out (by omega) (by unfold maxLen; omega) (by omega) hG.size w.heap.size rfl ?_; intro g3 cap3 w3 hown3 hgr3 hat3 hlt3)
    go_ret
    exact ⟨_, rfl, hown3, hgr3, hat3.imp (fun h => h.symm) (fun h b hb => by simp [Value.ownBlock] at hb; omega)⟩
  | some a =>
    clear hA
    by_cases hcn : c = n
    · subst hcn
      go_enter Tryz.func137, Tryz.ntmps137
      go_wp2_with (at_builtin; refine wpList_append_lies _ rfl _ _ 32 rfl w0.heap.size 3 i0 (.int .i64 0) 1 8 Tryz.underlying32 hi hz0 hz1 hz2 rfl (by omega) _ _ _ (by rfl) HO.out ⟨vb, 0, none⟩ 1 1 xc (by rfl) HX.out (fun j u hj => by rw [add_lit]; exact HV.out j u hj) H1.out (by omega) (by unfold maxLen; omega) (by omega) hG.size w.heap.size rfl ?_; intro g3 cap3 w3 hown3 hgr3 hat3 hlt3)
      go_ret
      exact ⟨_, rfl, hown3, hgr3, hat3.imp (fun h => h.symm) (fun h b hb => by simp [Value.ownBlock] at hb; omega)⟩
    · go_enter Tryz.func137, Tryz.ntmps137
      go_wp2_with (at_builtin; refine wpList_append_lies _ rfl _ _ 32 rfl w0.heap.size 3 i0 (.int .i64 0) 1 8 Tryz.underlying32 hi hz0 hz1 hz2 rfl (by omega) _ _ _ (by rfl) HO.out ⟨vb, 0, none⟩ 1 1 xc (by rfl) HX.out (fun j u hj => by rw [add_lit]; exact HV.out j u hj) H1.out (by omega) (by unfold maxLen; omega) (by omega) hG.size w.heap.size rfl ?_; intro g3 cap3 w3 hown3 hgr3 hat3 hlt3)
      go_ret
      exact ⟨_, rfl, hown3, hgr3, hat3.imp (fun h => h.symm) (fun h b hb => by simp [Value.ownBlock] at hb; omega)⟩
/-- slices.Insert(s, i, x) on a row of the call's own. -/
theorem insertI (w0 : World) (l : List Int) (x : Int) (i vb : Nat) (v : Value) (w : World) (hown : w.ownsRow w0.heap.size 3 1 v l.length (l.flatMap oneI)) (hG : Grew w0 w) (hi : i ≤ l.length) (hl : l.length ≤ 1000000)
    (hv : w.heap[vb]? = some (.cells (oneI x).toArray 3 (0, 0))) (hne : some vb ≠ v.ownBlock) :
    Calls Tryz.prog 137 #[v, .int .i64 i, .slice (some ⟨vb, 0, none⟩) 1 1] w (RetRow3 3 1 ((l.take i ++ [x] ++ l.drop i).flatMap oneI) (l.length + 1) w0.heap.size v w) := by
  have hx1 : ∀ v ∈ (oneI x), v.oneCell' = true := fun v hv => one_cellsI [x] v (by simpa using hv)
  have hxl : (oneI x).length = 1 := rfl
  obtain ⟨ht, hd⟩ := flat_take (f := oneI) (k := 1) (fun _ => rfl) l i
  rw [Nat.mul_one] at ht hd
  have hfl := flatMap_len oneI 1 (fun _ => rfl) l
  by_cases e : i = l.length
  · subst e
    have := insEndI w0 l.length vb (l.flatMap oneI) (oneI x) v w hown hG hl hv hxl hx1
    simpa [List.flatMap_append] using this
  · rcases hown.2 with ⟨_, h0⟩ | ⟨g, cap, cur, rfl, hbg, hh, h1, h2, h3, h4⟩
    · omega
    have hres : (l.take i ++ [x] ++ l.drop i).flatMap oneI = (l.flatMap oneI).take (i) ++ (oneI x) ++ (l.flatMap oneI).drop (i) := by
      rw [ht, hd]; simp [List.flatMap_append]
    have hcur : cur.toList = (l.flatMap oneI).take (i) ++ (l.flatMap oneI).drop (i) ++ cur.toList.drop (l.length * 1) := by
      rw [List.take_append_drop, ← h4, List.take_append_drop]
    have hh' : w.heap[g]? = some (.cells cur.toList.toArray 3 (0, 0)) := by simpa using hh
    have hp : ((l.flatMap oneI).take (i)).length = i := by rw [List.length_take, hfl]; omega
    have hq : ((l.flatMap oneI).drop i).length = l.length - i := by rw [List.length_drop, hfl]; omega
    have hne' : vb ≠ g := fun h => hne (by rw [h]; rfl)
    have hq1 : ∀ v ∈ (l.flatMap oneI).drop (i), v.oneCell' = true := fun v hv => one_cellsI l v (List.mem_of_mem_drop hv)
    rw [hres]
    by_cases hroom : l.length + 1 ≤ cap
    · exact insShiftI w0 g cap l.length i vb _ _ _ _ _ w (by omega) hroom h2 hne' hG hbg hh' hcur hp hq (by rw [List.length_drop, Array.length_toList, h3]; omega) (by simpa using h3) hv hxl hq1 hx1
    · exact insGrowI w0 g cap l.length i vb _ _ _ _ _ w (by omega) h1 (by omega) hl hG hh' hcur hp hq hv hxl hq1 hx1
end Go.Proofs.YtafncfomiolmgaaGreatDoor

/- slices.Insert of one branch, on a row of the call's own, with a word on all other blocks. No condition but the sizes that a slice can have. -/
namespace Go.Proofs.YtafncfomiolmgaaGreatDoor
open Go.RowKit

theorem cinfoB : (Tryz.prog.info? 53).map (fun i => (i.zero, i.size, i.bytes)) = some (some (.agg #[.int .i64 0, .int .i64 0, .int .i64 0, .string ⟨#[]⟩, .string ⟨#[]⟩, .slice none 0 0]), 6, 80) := by kernel_rfl
theorem one_cellsB (l : List BrC) (h : ∀ c ∈ l, c.kv.oneCell' = true) : ∀ u ∈ l.flatMap BrC.cells, u.oneCell' = true := by
  intro u hu
  rw [List.mem_flatMap] at hu
  obtain ⟨x, hx0, hx⟩ := hu
  simp [BrC.cells] at hx
  rcases hx with rfl | rfl | rfl | rfl | rfl | rfl
  all_goals first | rfl | exact h x hx0
theorem sizeB (w : World) : (Go.sizeOf 53).run Tryz.prog w = .ok 6 w := by kernel_rfl
theorem infoSzB : (Tryz.prog.info? 53).map (·.size) = some 6 := by kernel_rfl
theorem overlapsB (w : World) (g vb o : Nat) (hne : vb ≠ g) (cur xc : List Value) (hg : w.heap[g]? = some (.cells cur.toArray 53 (0, 0))) (hv : w.heap[vb]? = some (.cells xc.toArray 53 (0, 0))) (hpos : 0 < cur.length) (lb cb : Nat) :
    (callFunc 135 #[.slice (some ⟨vb, 0, none⟩) 1 1, .slice (some ⟨g, o, none⟩) lb cb]).run Tryz.prog w = .ok (.value (.bool false)) w := by
  rw [run_callFunc_extern Tryz.func135 (by kernel_rfl) (by kernel_rfl) (by kernel_rfl) (e := Extern.SlicesOverlaps.overlaps #[33, 33] #[4]) (by kernel_rfl),
    Lib.run_overlaps_apart w 33 4 53 Tryz.underlying33 6 sizeB ⟨vb, 0, none⟩ ⟨g, o, none⟩ 1 1 lb cb hne 53 53 xc.toArray.size cur.toArray.size (by simp [World.shape?, hv]) (by simp [World.shape?, hg]) (by simp only [List.size_toArray]; omega) (by simp [World.frozen?, hv]) (by simp [World.frozen?, hv])]
  rfl
set_option maxHeartbeats 4000000 in
set_option maxRecDepth 100000 in
/-- There is room. -/
theorem insShiftB (w0 : World) (g cap n i vb : Nat) (cur p q r xc : List Value) (w : World) (hi : i < n) (hroom : n + 1 ≤ cap) (hc : cap ≤ maxLen) (hne : vb ≠ g) (hG : Grew w0 w) (hbg : w0.heap.size ≤ g)
    (hg : w.heap[g]? = some (.cells cur.toArray 53 (0, 0))) (hcur : cur = p ++ q ++ r) (hp : p.length = i * 6) (hq : q.length = (n - i) * 6) (hr : 6 ≤ r.length) (hcl : cur.length = cap * 6)
    (hv : w.heap[vb]? = some (.cells xc.toArray 53 (0, 0))) (hx : xc.length = 6) (h1c : ∀ v ∈ q, v.oneCell' = true) (h1x : ∀ v ∈ xc, v.oneCell' = true) :
    Calls Tryz.prog 91 #[.slice (some ⟨g, 0, none⟩) n cap, .int .i64 i, .slice (some ⟨vb, 0, none⟩) 1 1] w (RetRow3 53 6 (p ++ xc ++ q) (n + 1) w0.heap.size (.slice (some ⟨g, 0, none⟩) n cap) w) := by
  have hlen : cur.length = i * 6 + (n - i) * 6 + r.length := by rw [hcur]; simp only [List.length_append, hp, hq]
  unfold maxLen at hc
  have hov := fun lb cb => overlapsB w g vb ((i + 1) * 6) hne cur xc hg hv (by omega) lb cb
  have hz1 : ¬ ((i : Int) = (n : Int)) := by omega
  have hb2 : ¬ (cap = i + 1) := by omega
  have hb3 : (i : Int) ≤ (n : Int) + 1 := by omega
  have hb4 : ¬ (cap = i) := by omega
  have hin : i ≤ n := by omega
  have HG0 := Lib.hid hg
  have HV := Lib.hid hv
  have HC := Lib.hid hcur
  have HPQ := Lib.hid (show p.length = i * 6 ∧ q.length = (n - i) * 6 ∧ 6 ≤ r.length ∧ xc.length = 6 from ⟨hp, hq, hr, hx⟩)
  have H1 := Lib.hid (show (∀ v ∈ q, v.oneCell' = true) ∧ (∀ v ∈ xc, v.oneCell' = true) from ⟨h1c, h1x⟩)
  have HCL := Lib.hid hcl
  clear hg hv hcur hp hq hr hx h1c h1x hlen hcl
  go_enter Tryz.func91, Tryz.ntmps91
  go_wp2_with (simp only [hov])
  have hw1 : IntKind.i64.wrap ((i : Int) + 1) = (i : Int) + 1 := IntWalk.i64_in _ (by omega)
  have hb1 : (0 : Int) ≤ (i : Int) + 1 := by omega
  have htn : ((i : Int) + 1).toNat = i + 1 := by omega
  have hb5 : (i : Int) + 1 ≤ (n : Int) + 1 := by omega
  have h0i : (0 : Int) ≤ (i : Int) := by omega
  refine region_still_tail 8 (by kernel_rfl) (by kernel_rfl) ?_
  simp only [List.take_succ_cons, List.take_zero, List.drop_succ_cons, List.drop_zero]
  iterate 8 still_step
  clear hw1 hb1 htn hb5
  refine wpStill_nil ?_
  refine copyK rfl _ _ 33 33 rfl 53 Tryz.underlying33 6 infoSzB g ((i + 1) * 6) (n - i) (cap - (i + 1)) ⟨g, i * 6, none⟩ (n + 1 - i) (cap - i) (by rfl) (by rfl) cur 53 (by have := HG0.out; exact this) q ?_ ?_ ?_ ?_ w0 (by exact hG.drew) hbg ?_
  · rw [HPQ.out.2.1]
    congr 1
    simp only [Nat.min_def]
    split <;> omega
  · intro j v hj
    rw [add_lit]
    refine cells_at HG0.out (i * 6 + j) v ?_
    rw [HC.out, List.append_assoc, ← HPQ.out.1, List.getElem?_append_right (by omega), Nat.add_sub_cancel_left, List.getElem?_append_left (List.getElem?_eq_some_iff.1 hj).1]
    exact hj
  · have h1 := HPQ.out
    rw [HC.out]
    simp only [List.length_append]
    omega
  · exact fun v hv => H1.out.1 v hv
  intro w1 HG1 HW1 HK1
  have hvb1 : w1.heap[vb]? = some (.cells xc.toArray 53 (0, 0)) := (HK1.out vb hne).trans HV.out
  obtain ⟨w2, hrun, hg2, hG2, hk2⟩ := copy_run (P := Tryz.prog) w1 33 33 53 Tryz.underlying33 6 infoSzB g (i * 6) (n + 1 - i) (cap - i) ⟨vb, 0, none⟩ 1 1 _ 53 HG1.out xc (by
      rw [HPQ.out.2.2.2]
      have : Nat.min 1 (n + 1 - i) = 1 := by simp only [Nat.min_def]; split <;> omega
      rw [this]) (fun j v hj => by rw [add_lit, Nat.zero_add]; exact cells_at hvb1 j v hj) (by
      have h1 := HPQ.out
      rw [length_splice _ _ _ (by rw [HC.out]; simp only [List.length_append]; omega), HC.out]
      simp only [List.length_append]
      omega) H1.out.2 w0 HW1.out hbg
  have HFin : RowKit.Hid (w2.ownsRow w0.heap.size 53 6 (.slice (some ⟨g, 0, none⟩) (n + 1) cap) (n + 1) (p ++ xc ++ q)) := by
    have h1 := HPQ.out
    have hs := splice_shift p q r xc (by omega)
    rw [h1.1, h1.2.2.2, ← HC.out, show i * 6 + 6 = (i + 1) * 6 by omega] at hs
    refine own_splice hbg hg2 (by omega) (by unfold maxLen; omega) ?_ (by simp only [List.length_append]; omega) ⟨_, hs⟩
    rw [length_splice _ _ _ (by rw [length_splice _ _ _ (by rw [HC.out]; simp only [List.length_append]; omega), HC.out]; simp only [List.length_append]; omega), length_splice _ _ _ (by rw [HC.out]; simp only [List.length_append]; omega)]
    exact HCL.out
  have HGR := Lib.hid (grown_of hG hG2 hg2 (fun b hb => (hk2 b hb).trans (HK1.out b hb)))
  clear hg2 hG2 hvb1 hk2
  go_wp2
  go_ret
  exact ⟨_, rfl, HFin.out, HGR.out, .inl rfl⟩
/-- The row that append(s[:i], make(..)...) gives where there is no room. -/
theorem zerosB (w : World) (g cap n i : Nat) (cur p q : List Value) (hi : i < n) (hnc : n ≤ cap) (hroom : cap < n + 1) (hn : n ≤ 1000000) (hg : w.heap[g]? = some (.cells cur.toArray 53 (0, 0))) (hcur : ∃ r, cur = p ++ q ++ r) (hp : p.length = i * 6) :
    ∃ (G : Nat) (Z : List Value) (w1 : World), (∀ ty, (Builtin.append_ #[33, 3] ty #[.slice (some ⟨g, 0, none⟩) i cap, .int .i64 ((n : Int) + 1 - (i : Int))]).run Tryz.prog w = .ok (.slice (some ⟨w.heap.size, 0, none⟩) (n + 1) G) w1) ∧
      n + 1 ≤ G ∧ G ≤ maxLen ∧ w1.heap[w.heap.size]? = some (.cells (p ++ Z).toArray 53 (0, 0)) ∧ (n + 1 - i) * 6 ≤ Z.length ∧ i * 6 + Z.length = G * 6 ∧ Grew w w1 := by
  obtain ⟨i0, hi0, hz0, hz1, hz2⟩ := info_parts cinfoB
  obtain ⟨r, hcur⟩ := hcur
  have hkk : (n : Int) + 1 - (i : Int) = ((n + 1 - i : Nat) : Int) := by omega
  have hik : i + (n + 1 - i) = n + 1 := by omega
  have hold : (Builtin.firstCells i0.size i (.slice (some ⟨g, 0, none⟩) i cap)).run Tryz.prog w.drew = .ok p.toArray w.drew := by
    rw [hz1]
    refine run_firstCells_some w.drew 6 i ⟨g, 0, none⟩ i cap p hp (fun j v hj => ?_)
    rw [add_lit, Nat.zero_add]
    refine cells_at (w := w.drew) hg j v ?_
    rw [hcur, List.append_assoc, List.getElem?_append_left (List.getElem?_eq_some_iff.1 hj).1]
    exact hj
  have h := fun ty => Lib.run_append_grow_zeros w 33 3 ty 53 i0 _ .i64 .i64 Tryz.underlying33 Tryz.underlying3 hi0 hz0 (some ⟨g, 0, none⟩) i cap p hold (n + 1 - i) (by omega) (by omega) (by omega) (by omega) (by rw [hz2]; omega) (by rw [hz2, hik]; exact growslice_fits hroom (by omega))
  simp only [hik] at h
  rw [hkk]
  obtain ⟨ZC, hZC⟩ : ∃ ZC, ZC = (Value.agg #[.int .i64 0, .int .i64 0, .int .i64 0, .string ⟨#[]⟩, .string ⟨#[]⟩, .slice none 0 0]).cells := ⟨_, rfl⟩
  have hZs : ZC.size = 6 := by rw [hZC]; rfl
  rw [← hZC] at h
  refine ⟨_, (Builtin.zeroCells ZC (n + 1 - i) ++ Builtin.zeroCells ZC (grownCap w (n + 1) cap 53 - (n + 1))).toList, _, h, grownCap_ge w _ _ _, grownCap_le_maxLen w (n + 1) cap _ (by unfold maxLen; omega), ?_, ?_, ?_, (Grew.refl w).drew.alloc _⟩
  · have := heap_alloc_last w.drew (.cells (p.toArray ++ Builtin.zeroCells ZC (n + 1 - i) ++ Builtin.zeroCells ZC (grownCap w (n + 1) cap 53 - (n + 1))) 53 (0, 0))
    rw [show (p ++ (Builtin.zeroCells ZC (n + 1 - i) ++ Builtin.zeroCells ZC (grownCap w (n + 1) cap 53 - (n + 1))).toList).toArray = p.toArray ++ Builtin.zeroCells ZC (n + 1 - i) ++ Builtin.zeroCells ZC (grownCap w (n + 1) cap 53 - (n + 1)) by simp [Array.append_assoc]]
    exact this
  · simp [Builtin.zeroCells, hZs]
  · have h9 := grownCap_ge w (n + 1) cap 53
    simp only [Builtin.zeroCells, hZs, Array.toList_append, List.length_append, Array.length_toList, Array.size_map, Array.size_range]
    rw [← Nat.add_assoc, ← Nat.add_mul, ← Nat.add_mul]
    generalize grownCap w (n + 1) cap 53 = X at h9 ⊢
    rw [show i + (n + 1 - i) + (X - (n + 1)) = X by omega]
set_option maxHeartbeats 4000000 in
set_option maxRecDepth 100000 in
/-- There is no room. -/
theorem insGrowB (w0 : World) (g cap n i vb : Nat) (cur p q r xc : List Value) (w : World) (hi : i < n) (hnc : n ≤ cap) (hroom : cap < n + 1) (hn : n ≤ 1000000) (hG : Grew w0 w)
    (hg : w.heap[g]? = some (.cells cur.toArray 53 (0, 0))) (hcur : cur = p ++ q ++ r) (hp : p.length = i * 6) (hq : q.length = (n - i) * 6)
    (hv : w.heap[vb]? = some (.cells xc.toArray 53 (0, 0))) (hx : xc.length = 6) (h1c : ∀ v ∈ q, v.oneCell' = true) (h1x : ∀ v ∈ xc, v.oneCell' = true) :
    Calls Tryz.prog 91 #[.slice (some ⟨g, 0, none⟩) n cap, .int .i64 i, .slice (some ⟨vb, 0, none⟩) 1 1] w (RetRow3 53 6 (p ++ xc ++ q) (n + 1) w0.heap.size (.slice (some ⟨g, 0, none⟩) n cap) w) := by
  obtain ⟨G, Z, w1, hrun1, hG1, hG2, hh1, hZ, hZl, hgr1⟩ := zerosB w g cap n i cur p q hi hnc hroom hn hg ⟨r, hcur⟩ hp
  unfold maxLen at hG2
  have hglt : g < w.heap.size := (Array.getElem?_eq_some_iff.1 hg).1
  have hvlt : vb < w.heap.size := (Array.getElem?_eq_some_iff.1 hv).1
  have hv1 : w1.heap[vb]? = some (.cells xc.toArray 53 (0, 0)) := (hgr1.block vb hvlt).trans hv
  have hg1 : w1.heap[g]? = some (.cells cur.toArray 53 (0, 0)) := (hgr1.block g hglt).trans hg
  have hmin : Nat.min 1 (n + 1 - i) = 1 := by simp only [Nat.min_def]; split <;> omega
  obtain ⟨w2, hrun2, hh2, hgr2, hk2⟩ := copy_run (P := Tryz.prog) w1 33 33 53 Tryz.underlying33 6 infoSzB w.heap.size (i * 6) (n + 1 - i) (G - i) ⟨vb, 0, none⟩ 1 1 _ 53 hh1 xc (by rw [hx, hmin]) (fun j v hj => by rw [add_lit, Nat.zero_add]; exact cells_at hv1 j v hj) (by rw [List.length_append, hp, hx]; omega) h1x w hgr1 (Nat.le_refl _)
  have hg2 : w2.heap[g]? = some (.cells cur.toArray 53 (0, 0)) := (hk2 g (by omega)).trans hg1
  have hz1 : ¬ ((i : Int) = (n : Int)) := by omega
  have hz3 : (cap : Int) < (n : Int) + 1 := by omega
  have hb2 : ¬ (G = i + 1) := by omega
  have hb3 : (i : Int) ≤ (n : Int) + 1 := by omega
  have hb4 : ¬ (cap = i) := by omega
  have hb5 : ¬ (G = i) := by omega
  have hin : i ≤ n := by omega
  have hin2 : (i : Int) ≤ (n : Int) := by omega
  have HR2 := Lib.hid (show w2.heap[w.heap.size]? = _ ∧ w2.heap[g]? = _ ∧ Grew w w2 from ⟨hh2, hg2, hgr2⟩)
  have HC := Lib.hid hcur
  have HPQ := Lib.hid (show p.length = i * 6 ∧ q.length = (n - i) * 6 ∧ xc.length = 6 ∧ (n + 1 - i) * 6 ≤ Z.length ∧ i * 6 + Z.length = G * 6 from ⟨hp, hq, hx, hZ, hZl⟩)
  have H1 := Lib.hid (show (∀ v ∈ q, v.oneCell' = true) ∧ (∀ v ∈ xc, v.oneCell' = true) from ⟨h1c, h1x⟩)
  clear hg hv hcur hp hq hx h1c h1x hh1 hZ hZl hgr1 hv1 hg1 hmin hh2 hgr2 hk2 hg2 hglt hvlt
  obtain ⟨H, hH⟩ : ∃ H, H = w.heap.size := ⟨_, rfl⟩
  rw [← hH] at HR2 hrun1 hrun2
  have HH := Lib.hid hH
  clear hH
  go_enter Tryz.func91, Tryz.ntmps91
  go_wp2_with (at_builtin; refine Lib.wpList_append_run _ rfl _ _ _ _ rfl _ _ rfl rfl _ _ (hrun1 _) ?_)
  have hw1 : IntKind.i64.wrap ((i : Int) + 1) = (i : Int) + 1 := IntWalk.i64_in _ (by omega)
  have hb6 : (0 : Int) ≤ (i : Int) + 1 := by omega
  have htn : ((i : Int) + 1).toNat = i + 1 := by omega
  have hb7 : (i : Int) + 1 ≤ (n : Int) + 1 := by omega
  have h0i : (0 : Int) ≤ (i : Int) := by omega
  refine region_still_tail 8 (by kernel_rfl) (by kernel_rfl) ?_
  simp only [List.take_succ_cons, List.take_zero, List.drop_succ_cons, List.drop_zero]
  iterate 8 still_step
  clear hw1 hb6 htn hb7
  refine wpStill_nil ?_
  refine copyK rfl _ _ 33 33 rfl 53 Tryz.underlying33 6 infoSzB H ((i + 1) * 6) (n - i) (G - (i + 1)) ⟨g, i * 6, none⟩ (n - i) (cap - i) (by rfl) (by rfl) _ 53 (by have := HR2.out.1; exact this) q ?_ ?_ ?_ ?_ w (by exact HR2.out.2.2.drew) (by rw [HH.out]; exact Nat.le_refl _) ?_
  · rw [HPQ.out.2.1]
    congr 1
    simp only [Nat.min_def]
    split <;> omega
  · intro j v hj
    rw [add_lit]
    refine cells_at (w := w2.drew) HR2.out.2.1 (i * 6 + j) v ?_
    rw [HC.out, List.append_assoc, ← HPQ.out.1, List.getElem?_append_right (by omega), Nat.add_sub_cancel_left, List.getElem?_append_left (List.getElem?_eq_some_iff.1 hj).1]
    exact hj
  · have h1 := HPQ.out
    rw [length_splice _ _ _ (by rw [List.length_append]; omega), List.length_append]
    omega
  · exact fun v hv => H1.out.1 v hv
  intro w3 HG3 HW3 HK3
  have HFin : RowKit.Hid (w3.ownsRow w0.heap.size 53 6 (.slice (some ⟨H, 0, none⟩) (n + 1) G) (n + 1) (p ++ xc ++ q)) := by
    have h1 := HPQ.out
    have hs := splice_new p q Z xc
    rw [h1.1, h1.2.2.1, show i * 6 + 6 = (i + 1) * 6 by omega] at hs
    refine own_splice (by rw [HH.out]; exact hG.size) HG3.out (by omega) (by unfold maxLen; omega) ?_ (by simp only [List.length_append]; omega) ⟨_, hs⟩
    rw [length_splice _ _ _ (by rw [length_splice _ _ _ (by rw [List.length_append]; omega), List.length_append]; omega), length_splice _ _ _ (by rw [List.length_append]; omega), List.length_append, h1.1]
    exact h1.2.2.2.2
  go_wp2
  go_ret
  exact ⟨_, rfl, HFin.out, grown_grew HW3.out _, .inr fun b hb => by simp [Value.ownBlock] at hb; rw [← hb, HH.out]; exact Nat.le_refl _⟩
set_option maxHeartbeats 4000000 in
set_option maxRecDepth 100000 in
/-- At the end. -/
theorem insEndB (w0 : World) (n vb : Nat) (xs xc : List Value) (v : Value) (w : World) (hown : w.ownsRow w0.heap.size 53 6 v n xs) (hG : Grew w0 w) (hl : n ≤ 1000000)
    (hv : w.heap[vb]? = some (.cells xc.toArray 53 (0, 0))) (hx : xc.length = 6) (h1x : ∀ v ∈ xc, v.oneCell' = true) :
    Calls Tryz.prog 91 #[v, .int .i64 n, .slice (some ⟨vb, 0, none⟩) 1 1] w (RetRow3 53 6 (xs ++ xc) (n + 1) w0.heap.size v w) := by
  obtain ⟨i0, hi, hz0, hz1, hz2⟩ := info_parts cinfoB
  have HO := Lib.hid hown
  have HV := Lib.hid (fun j u hj => (by rw [Nat.zero_add]; exact cells_at hv j u hj : w.cell? ⟨vb, 0 + j, none⟩ = some u))
  have HX := Lib.hid (show xc.length = 1 * 6 from hx)
  have H1 := Lib.hid h1x
  have hf : ∃ (A : Option Addr) (c : Nat), v = .slice A n c ∧ n ≤ c ∧ c ≤ maxLen ∧ (A = none → n = 0 ∧ c = 0) := by
    rcases hown.2 with ⟨rfl, rfl⟩ | ⟨g, cap, cur, rfl, _, _, h1, h2, _⟩
    · exact ⟨_, _, rfl, Nat.le_refl _, Nat.zero_le _, fun _ => ⟨rfl, rfl⟩⟩
    · exact ⟨_, _, rfl, h1, h2, fun h => by cases h⟩
  obtain ⟨A, c, rfl, hnc, hc, hA⟩ := hf
  unfold maxLen at hc
  clear hown hv hx h1x
  cases A with
  | none =>
    obtain ⟨rfl, rfl⟩ := hA rfl
    clear hA
    go_enter Tryz.func91, Tryz.ntmps91
    go_wp2_with (at_builtin; refine wpList_append_lies _ rfl _ _ 33 rfl w0.heap.size 53 i0 (.agg #[.int .i64 0, .int .i64 0, .int .i64 0, .string ⟨#[]⟩, .string ⟨#[]⟩, .slice none 0 0]) 6 80 Tryz.underlying33 hi hz0 hz1 hz2 rfl (by omega) _ _ _ (by rfl) HO.out ⟨vb, 0, none⟩ 1 1 xc (by rfl) HX.out (fun j u hj => by rw [add_lit]; exact HV.out j u hj) H1.out (by omega) (by unfold maxLen; omega) (by omega) hG.size w.heap.size rfl ?_; intro g3 cap3 w3 hown3 hgr3 hat3 hlt3)
    go_ret
    exact ⟨_, rfl, hown3, hgr3, hat3.imp (fun h => h.symm) (fun h b hb => by simp [Value.ownBlock] at hb; omega)⟩
  | some a =>
    clear hA
    by_cases hcn : c = n
    · subst hcn
      go_enter Tryz.func91, Tryz.ntmps91
      go_wp2_with (at_builtin; refine wpList_append_lies _ rfl _ _ 33 rfl w0.heap.size 53 i0 (.agg #[.int .i64 0, .int .i64 0, .int .i64 0, .string ⟨#[]⟩, .string ⟨#[]⟩, .slice none 0 0]) 6 80 Tryz.underlying33 hi hz0 hz1 hz2 rfl (by omega) _ _ _ (by rfl) HO.out ⟨vb, 0, none⟩ 1 1 xc (by rfl) HX.out (fun j u hj => by rw [add_lit]; exact HV.out j u hj) H1.out (by omega) (by unfold maxLen; omega) (by omega) hG.size w.heap.size rfl ?_; intro g3 cap3 w3 hown3 hgr3 hat3 hlt3)
      go_ret
      exact ⟨_, rfl, hown3, hgr3, hat3.imp (fun h => h.symm) (fun h b hb => by simp [Value.ownBlock] at hb; omega)⟩
    · go_enter Tryz.func91, Tryz.ntmps91
      go_wp2_with (at_builtin; refine wpList_append_lies _ rfl _ _ 33 rfl w0.heap.size 53 i0 (.agg #[.int .i64 0, .int .i64 0, .int .i64 0, .string ⟨#[]⟩, .string ⟨#[]⟩, .slice none 0 0]) 6 80 Tryz.underlying33 hi hz0 hz1 hz2 rfl (by omega) _ _ _ (by rfl) HO.out ⟨vb, 0, none⟩ 1 1 xc (by rfl) HX.out (fun j u hj => by rw [add_lit]; exact HV.out j u hj) H1.out (by omega) (by unfold maxLen; omega) (by omega) hG.size w.heap.size rfl ?_; intro g3 cap3 w3 hown3 hgr3 hat3 hlt3)
      go_ret
      exact ⟨_, rfl, hown3, hgr3, hat3.imp (fun h => h.symm) (fun h b hb => by simp [Value.ownBlock] at hb; omega)⟩
/-- slices.Insert(s, i, x) on a row of the call's own. -/
theorem insertB (w0 : World) (l : List BrC) (x : BrC) (i vb : Nat) (v : Value) (w : World) (hown : w.ownsRow w0.heap.size 53 6 v l.length (l.flatMap BrC.cells)) (hG : Grew w0 w) (hone : ∀ c ∈ l, c.kv.oneCell' = true) (honx : x.kv.oneCell' = true) (hi : i ≤ l.length) (hl : l.length ≤ 1000000)
    (hv : w.heap[vb]? = some (.cells x.cells.toArray 53 (0, 0))) (hne : some vb ≠ v.ownBlock) :
    Calls Tryz.prog 91 #[v, .int .i64 i, .slice (some ⟨vb, 0, none⟩) 1 1] w (RetRow3 53 6 ((l.take i ++ [x] ++ l.drop i).flatMap BrC.cells) (l.length + 1) w0.heap.size v w) := by
  have hx1 : ∀ v ∈ x.cells, v.oneCell' = true := fun v hv => one_cellsB [x] (by simpa using honx) v (by simpa using hv)
  have hxl : x.cells.length = 6 := rfl
  obtain ⟨ht, hd⟩ := flat_take (f := BrC.cells) (k := 6) (fun _ => rfl) l i
  have hfl := flatMap_len BrC.cells 6 (fun _ => rfl) l
  by_cases e : i = l.length
  · subst e
    have := insEndB w0 l.length vb (l.flatMap BrC.cells) x.cells v w hown hG hl hv hxl hx1
    simpa [List.flatMap_append] using this
  · rcases hown.2 with ⟨_, h0⟩ | ⟨g, cap, cur, rfl, hbg, hh, h1, h2, h3, h4⟩
    · omega
    have hres : (l.take i ++ [x] ++ l.drop i).flatMap BrC.cells = (l.flatMap BrC.cells).take (i * 6) ++ x.cells ++ (l.flatMap BrC.cells).drop (i * 6) := by
      rw [ht, hd]; simp [List.flatMap_append]
    have hcur : cur.toList = (l.flatMap BrC.cells).take (i * 6) ++ (l.flatMap BrC.cells).drop (i * 6) ++ cur.toList.drop (l.length * 6) := by
      rw [List.take_append_drop, ← h4, List.take_append_drop]
    have hh' : w.heap[g]? = some (.cells cur.toList.toArray 53 (0, 0)) := by simpa using hh
    have hp : ((l.flatMap BrC.cells).take (i * 6)).length = i * 6 := by rw [List.length_take, hfl]; omega
    have hq : ((l.flatMap BrC.cells).drop (i * 6)).length = (l.length - i) * 6 := by rw [List.length_drop, hfl]; omega
    have hne' : vb ≠ g := fun h => hne (by rw [h]; rfl)
    have hq1 : ∀ v ∈ (l.flatMap BrC.cells).drop (i * 6), v.oneCell' = true := fun v hv => one_cellsB l hone v (List.mem_of_mem_drop hv)
    rw [hres]
    by_cases hroom : l.length + 1 ≤ cap
    · exact insShiftB w0 g cap l.length i vb _ _ _ _ _ w (by omega) hroom h2 hne' hG hbg hh' hcur hp hq (by rw [List.length_drop, Array.length_toList, h3]; omega) (by simpa using h3) hv hxl hq1 hx1
    · exact insGrowB w0 g cap l.length i vb _ _ _ _ _ w (by omega) h1 (by omega) hl hG hh' hcur hp hq hv hxl hq1 hx1
end Go.Proofs.YtafncfomiolmgaaGreatDoor

/- Authorities and branches with the lists that they lead to, and how they lie in memory. No condition. -/
namespace Go.Proofs.YtafncfomiolmgaaGreatDoor
open Go.RowKit

structure Auth where
  id : Int
  kind : Int
  fr : Int
  un : Int
  names : List Nam
  next : List Int
deriving DecidableEq, Inhabited
structure Br where
  id : Int
  parent : Int
  level : Int
  title : ByteArray
  mark : ByteArray
  kids : List Int
deriving DecidableEq, Inhabited
structure Tr where
  roots : List Int
  brs : List Br
deriving DecidableEq, Inhabited

/-- An authority whose names lie behind nv and whose successors lie behind xv. -/
def Auth.c (a : Auth) (nv xv : Value) : AuC := ⟨a.id, a.kind, a.fr, a.un, nv, xv⟩
def AuOk (w : World) (c : AuC) (a : Auth) : Prop := c = a.c c.nv c.xv ∧ SlN w c.nv a.names ∧ SlI w c.xv a.next
def SlAu (w : World) (v : Value) (l : List Auth) : Prop := ∃ cs : List AuC, SlA w v cs ∧ cs.length = l.length ∧ ∀ i (h : i < cs.length) (h' : i < l.length), AuOk w cs[i] l[i]
def Br.c (a : Br) (kv : Value) : BrC := ⟨a.id, a.parent, a.level, a.title, a.mark, kv⟩
def BrOk (w : World) (c : BrC) (a : Br) : Prop := c = a.c c.kv ∧ SlI w c.kv a.kids
def SlBr (w : World) (v : Value) (l : List Br) : Prop := ∃ cs : List BrC, SlB w v cs ∧ cs.length = l.length ∧ ∀ i (h : i < cs.length) (h' : i < l.length), BrOk w cs[i] l[i]
/-- A tree: its roots behind rv, its branches behind bv. -/
def TrOk (w : World) (rv bv : Value) (t : Tr) : Prop := SlI w rv t.roots ∧ SlBr w bv t.brs

theorem AuOk.mono {w w' : World} {c : AuC} {a : Auth} (h : AuOk w c a) (hg : Grew w w') : AuOk w' c a := ⟨h.1, h.2.1.mono hg, h.2.2.mono hg⟩
theorem SlAu.mono {w w' : World} {v : Value} {l : List Auth} (h : SlAu w v l) (hg : Grew w w') : SlAu w' v l := by
  obtain ⟨cs, h1, h2, h3⟩ := h
  exact ⟨cs, h1.mono hg, h2, fun i h h' => (h3 i h h').mono hg⟩
theorem SlAu.nil (w : World) : SlAu w (.slice none 0 0) [] := ⟨[], SlA.nil w, rfl, fun _ h => absurd h (Nat.not_lt_zero _)⟩
theorem BrOk.mono {w w' : World} {c : BrC} {a : Br} (h : BrOk w c a) (hg : Grew w w') : BrOk w' c a := ⟨h.1, h.2.mono hg⟩
theorem SlBr.mono {w w' : World} {v : Value} {l : List Br} (h : SlBr w v l) (hg : Grew w w') : SlBr w' v l := by
  obtain ⟨cs, h1, h2, h3⟩ := h
  exact ⟨cs, h1.mono hg, h2, fun i h h' => (h3 i h h').mono hg⟩
theorem SlBr.nil (w : World) : SlBr w (.slice none 0 0) [] := ⟨[], SlB.nil w, rfl, fun _ h => absurd h (Nat.not_lt_zero _)⟩
theorem TrOk.mono {w w' : World} {rv bv : Value} {t : Tr} (h : TrOk w rv bv t) (hg : Grew w w') : TrOk w' rv bv t := ⟨h.1.mono hg, h.2.mono hg⟩

/-- What a slice of authorities gives. -/
theorem SlAu.open_ {w : World} {v : Value} {l : List Auth} (h : SlAu w v l) : ∃ (A : Option Addr) (c : Nat), v = .slice A l.length c ∧ l.length ≤ c ∧ c ≤ maxLen ∧
    (0 < l.length → ∃ b off, A = some ⟨b, off, none⟩ ∧ b < w.heap.size ∧ ∀ i (hi : i < l.length), ∃ nv xv, SlN w nv l[i].names ∧ SlI w xv l[i].next ∧
      ∀ W, Grew w W → W.cell? ⟨b, off + i * 6, none⟩ = some (.int .i64 l[i].id) ∧ W.cell? ⟨b, off + i * 6 + 1, none⟩ = some (.int .i64 l[i].kind) ∧ W.cell? ⟨b, off + i * 6 + 2, none⟩ = some (.int .i64 l[i].fr) ∧ W.cell? ⟨b, off + i * 6 + 3, none⟩ = some (.int .i64 l[i].un) ∧ W.cell? ⟨b, off + i * 6 + 4, none⟩ = some nv ∧ W.cell? ⟨b, off + i * 6 + 5, none⟩ = some xv) := by
  obtain ⟨cs, h1, h2, h3⟩ := h
  obtain ⟨A, c, hv, hn, hm, hr⟩ := h1.open_
  refine ⟨A, c, by rw [← h2]; exact hv, by omega, hm, fun h0 => ?_⟩
  obtain ⟨b, off, hA, hb, hc⟩ := hr (by omega)
  refine ⟨b, off, hA, hb, fun i hi => ?_⟩
  obtain ⟨k1, k2, k3⟩ := h3 i (by omega) hi
  refine ⟨_, _, k2, k3, fun W hW => ?_⟩
  obtain ⟨e0, e1, e2, e3, e4, e5⟩ := hc W hW i (by omega)
  have q0 := congrArg AuC.id k1
  have q1 := congrArg AuC.kind k1
  have q2 := congrArg AuC.fr k1
  have q3 := congrArg AuC.un k1
  simp only [Auth.c] at q0 q1 q2 q3
  rw [q0] at e0
  rw [q1] at e1
  rw [q2] at e2
  rw [q3] at e3
  exact ⟨e0, e1, e2, e3, e4, e5⟩
/-- What a slice of branches gives. -/
theorem SlBr.open_ {w : World} {v : Value} {l : List Br} (h : SlBr w v l) : ∃ (A : Option Addr) (c : Nat), v = .slice A l.length c ∧ l.length ≤ c ∧ c ≤ maxLen ∧
    (0 < l.length → ∃ b off, A = some ⟨b, off, none⟩ ∧ b < w.heap.size ∧ ∀ i (hi : i < l.length), ∃ kv, SlI w kv l[i].kids ∧
      ∀ W, Grew w W → W.cell? ⟨b, off + i * 6, none⟩ = some (.int .i64 l[i].id) ∧ W.cell? ⟨b, off + i * 6 + 1, none⟩ = some (.int .i64 l[i].parent) ∧ W.cell? ⟨b, off + i * 6 + 2, none⟩ = some (.int .i64 l[i].level) ∧ W.cell? ⟨b, off + i * 6 + 3, none⟩ = some (.string l[i].title) ∧ W.cell? ⟨b, off + i * 6 + 4, none⟩ = some (.string l[i].mark) ∧ W.cell? ⟨b, off + i * 6 + 5, none⟩ = some kv) := by
  obtain ⟨cs, h1, h2, h3⟩ := h
  obtain ⟨A, c, hv, hn, hm, hr⟩ := h1.open_
  refine ⟨A, c, by rw [← h2]; exact hv, by omega, hm, fun h0 => ?_⟩
  obtain ⟨b, off, hA, hb, hc⟩ := hr (by omega)
  refine ⟨b, off, hA, hb, fun i hi => ?_⟩
  obtain ⟨k1, k2⟩ := h3 i (by omega) hi
  refine ⟨_, k2, fun W hW => ?_⟩
  obtain ⟨e0, e1, e2, e3, e4, e5⟩ := hc W hW i (by omega)
  have q0 := congrArg BrC.id k1
  have q1 := congrArg BrC.parent k1
  have q2 := congrArg BrC.level k1
  have q3 := congrArg BrC.title k1
  have q4 := congrArg BrC.mark k1
  simp only [Br.c] at q0 q1 q2 q3 q4
  rw [q0] at e0
  rw [q1] at e1
  rw [q2] at e2
  rw [q3] at e3
  rw [q4] at e4
  exact ⟨e0, e1, e2, e3, e4, e5⟩
theorem idxFrom_rel {α β : Type} {p : α → Bool} {q : β → Bool} : ∀ (l : List α) (m : List β) (j : Nat), l.length = m.length → (∀ i (h : i < l.length) (h' : i < m.length), p l[i] = q m[i]) → idxFrom p l j = idxFrom q m j
  | [], [], _, _, _ => rfl
  | [], _ :: _, _, h, _ => by simp at h
  | _ :: _, [], _, h, _ => by simp at h
  | x :: l, y :: m, j, h, hr => by
    have h0 := hr 0 (by simp) (by simp)
    simp only [List.getElem_cons_zero] at h0
    rw [idxFrom, idxFrom, h0, idxFrom_rel l m (j + 1) (by simpa using h) (fun i h1 h2 => hr (i + 1) (Nat.succ_lt_succ h1) (Nat.succ_lt_succ h2))]
/-- Lists that belong to one another are searched alike. -/
theorem idxP_rel {α β : Type} {p : α → Bool} {q : β → Bool} (l : List α) (m : List β) (h : l.length = m.length) (hr : ∀ i (h : i < l.length) (h' : i < m.length), p l[i] = q m[i]) : idxP p l = idxP q m := idxFrom_rel l m 0 h hr
end Go.Proofs.YtafncfomiolmgaaGreatDoor

/- Names and marks, plainly: what the search for a strange sign finds. No condition. -/
namespace Go.Proofs.YtafncfomiolmgaaGreatDoor
open Go.RowKit

theorem dec_lo (s : ByteArray) (pos : Nat) (h : (s.get! pos).toNat < 128) : Utf8.decode s pos = ((s.get! pos).toNat, 1) := by
  unfold Utf8.decode
  simp only [Nat.add_zero]
  rw [if_pos h]
theorem dec_hi (s : ByteArray) (pos : Nat) (h : 128 ≤ (s.get! pos).toNat) : 128 ≤ (Utf8.decode s pos).1 := by
  unfold Utf8.decode
  simp only [Nat.add_zero]
  rw [if_neg (by omega)]
  have he : 128 ≤ Utf8.runeError := by decide
  split
  · split
    · rename_i h2; exact h2
    · exact he
  · split
    · split
      · rename_i h2
        simp only [Bool.and_eq_true, decide_eq_true_eq] at h2
        show 128 ≤ _
        omega
      · exact he
    · split
      · split
        · rename_i h2
          simp only [Bool.and_eq_true, decide_eq_true_eq] at h2
          show 128 ≤ _
          omega
        · exact he
      · exact he
/-- A sign outside lo .. hi. -/
def strange (lo hi : Nat) (r : Nat) : Bool := decide (r < lo) || decide (hi < r)
theorem idxFrom_strange (lo hi : Nat) (hhi : hi < 128) (s : ByteArray) : ∀ (f pos : Nat), s.size ≤ pos + f → (0 ≤ Lib.idxFuncFrom (strange lo hi) true s f pos ↔ ∃ j, pos ≤ j ∧ j < s.size ∧ strange lo hi (s.get! j).toNat = true)
  | 0, pos, h => by
    constructor
    · intro h2
      simp [Lib.idxFuncFrom] at h2
    · rintro ⟨j, h1, h2, _⟩
      omega
  | f + 1, pos, h => by
    rw [Lib.idxFuncFrom]
    by_cases hp : pos < s.size
    · rw [if_pos hp]
      by_cases hb : (s.get! pos).toNat < 128
      · rw [dec_lo s pos hb]
        by_cases hs : strange lo hi (s.get! pos).toNat = true
        · rw [if_pos hs]
          exact ⟨fun _ => ⟨pos, Nat.le_refl _, hp, hs⟩, fun _ => by omega⟩
        · rw [if_neg hs, idxFrom_strange lo hi hhi s f (pos + 1) (by omega)]
          constructor
          · rintro ⟨j, h1, h2, h3⟩
            exact ⟨j, by omega, h2, h3⟩
          · rintro ⟨j, h1, h2, h3⟩
            by_cases e : j = pos
            · subst e
              exact absurd h3 hs
            · exact ⟨j, by omega, h2, h3⟩
      · have hd := dec_hi s pos (by omega)
        have hs : strange lo hi (Utf8.decode s pos).1 = true := by
          simp only [strange, Bool.or_eq_true, decide_eq_true_eq]
          omega
        rw [if_pos hs]
        refine ⟨fun _ => ⟨pos, Nat.le_refl _, hp, ?_⟩, fun _ => by omega⟩
        simp only [strange, Bool.or_eq_true, decide_eq_true_eq]
        omega
    · rw [if_neg hp]
      constructor
      · intro h2
        simp at h2
      · rintro ⟨j, h1, h2, _⟩
        omega
/-- All signs in lo .. hi. -/
def allIn (lo hi : Nat) (l : List UInt8) : Bool := l.all fun b => decide (lo ≤ b.toNat) && decide (b.toNat ≤ hi)
theorem idx_strange (lo hi : Nat) (hhi : hi < 128) (s : ByteArray) : decide (0 ≤ Lib.idxFunc (strange lo hi) true s) = !allIn lo hi s.data.toList := by
  rw [Bool.eq_iff_iff, decide_eq_true_eq, Lib.idxFunc, idxFrom_strange lo hi hhi s s.size 0 (by omega)]
  simp only [Bool.not_eq_true', allIn, List.all_eq_false]
  have hg : ∀ j (h : j < s.size), s.get! j = s.data.toList[j]'(by simpa using h) := fun j h => by
    have h' : j < s.data.size := h
    rw [Array.getElem_toList]
    show s.data[j]! = _
    rw [getElem!_pos s.data j h']
  constructor
  · rintro ⟨j, _, h2, h3⟩
    refine ⟨_, List.getElem_mem (by simpa using h2), ?_⟩
    rw [← hg j h2]
    simp only [strange, Bool.or_eq_true, decide_eq_true_eq] at h3
    simp only [Bool.and_eq_true, decide_eq_true_eq]
    omega
  · rintro ⟨b, hb, h3⟩
    obtain ⟨j, hj, rfl⟩ := List.mem_iff_getElem.1 hb
    have hj' : j < s.size := by simpa using hj
    refine ⟨j, by omega, hj', ?_⟩
    rw [hg j hj']
    simp only [Bool.and_eq_true, decide_eq_true_eq] at h3
    simp only [strange, Bool.or_eq_true, decide_eq_true_eq]
    omega
/-- Whether a string is a name. -/
def nameF (l : List UInt8) : Bool := decide (1 ≤ l.length ∧ l.length ≤ 64) && (!(l.head? == some 32) && (!(l.getLast? == some 32) && (!Lib.contains l [32, 32] && allIn 32 126 l)))
/-- Whether a string is a mark. -/
def markF (l : List UInt8) : Bool := decide (1 ≤ l.length ∧ l.length ≤ 64) && allIn 33 126 l
end Go.Proofs.YtafncfomiolmgaaGreatDoor

/- What is right of authorities and relations, plainly. No condition. -/
namespace Go.Proofs.YtafncfomiolmgaaGreatDoor
open Go.RowKit

def within (n lo hi : Int) : Bool := decide (lo ≤ n) && decide (n ≤ hi)
def spansF (fr un : Int) : Bool := decide (0 ≤ fr) && (decide (fr < un) && decide (un ≤ 1048576))
theorem within_t {n lo hi : Int} : within n lo hi = true ↔ lo ≤ n ∧ n ≤ hi := by simp [within]
/-- A name of an authority that is right, behind the one before it. -/
def NamOk (a : Auth) (i : Nat) (h : i < a.names.length) : Prop :=
  nameF a.names[i].text.data.toList = true ∧ spansF a.names[i].fr a.names[i].un = true ∧ a.fr ≤ a.names[i].fr ∧ a.names[i].un ≤ a.un ∧ (0 < i → (a.names[i - 1]'(by omega)).un ≤ a.names[i].fr)
def NamesOk (a : Auth) : Prop := (1 ≤ a.names.length ∧ a.names.length ≤ 16) ∧ ∀ i (h : i < a.names.length), NamOk a i h
def NextOk (l : List Int) : Prop := l.length ≤ 16 ∧ ∀ k (h : k < l.length), 1 ≤ k → (l[k - 1]'(by omega)) < l[k]
def AuAlone (l : List Auth) (i : Nat) (h : i < l.length) : Prop :=
  within l[i].id 1 1073741824 = true ∧ within l[i].kind 1 3 = true ∧ spansF l[i].fr l[i].un = true ∧ (0 < i → (l[i - 1]'(by omega)).id < l[i].id) ∧ NamesOk l[i] ∧ NextOk l[i].next
def auFind (l : List Auth) (id : Int) : Option Auth := l.find? fun a => a.id == id
def SuccOk (l : List Auth) (a : Auth) : Prop := ∀ n ∈ a.next, ∃ b, auFind l n = some b ∧ b.kind = a.kind ∧ b.fr = a.un
/-- A right list of authorities. -/
def AuthRight (l : List Auth) : Prop := l.length ≤ 64 ∧ (∀ i (h : i < l.length), AuAlone l i h) ∧ ∀ i (h : i < l.length), SuccOk l l[i]

instance (a : Auth) (i : Nat) (h : i < a.names.length) : Decidable (NamOk a i h) := by unfold NamOk; infer_instance
instance (a : Auth) : Decidable (NamesOk a) := by unfold NamesOk; infer_instance
instance (l : List Int) : Decidable (NextOk l) := by unfold NextOk; infer_instance
instance (l : List Auth) (i : Nat) (h : i < l.length) : Decidable (AuAlone l i h) := by unfold AuAlone; infer_instance
instance (l : List Auth) (n k u : Int) : Decidable (∃ b, auFind l n = some b ∧ b.kind = k ∧ b.fr = u) :=
  decidable_of_iff (((auFind l n).map fun b => decide (b.kind = k ∧ b.fr = u)) = some true) (by cases auFind l n <;> simp)
instance (l : List Auth) (a : Auth) : Decidable (SuccOk l a) := by unfold SuccOk; infer_instance
instance (l : List Auth) : Decidable (AuthRight l) := by unfold AuthRight; infer_instance

end Go.Proofs.YtafncfomiolmgaaGreatDoor

/- What is right of a tree, plainly. No condition. -/
namespace Go.Proofs.YtafncfomiolmgaaGreatDoor
open Go.RowKit

def brFind (l : List Br) (id : Int) : Option Br := l.find? fun b => b.id == id
def brIdx (l : List Br) (id : Int) : Int := idxP (fun b => b.id == id) l
def fitsF (p c : Int) : Bool := within p 1 4 && (within c 1 4 && (decide (p < c) || (p == 2 && c == 2)))
def markOk (l : List Br) (i : Nat) (m : ByteArray) : Prop := m.toList.isEmpty = false → markF m.data.toList = true ∧ (l.take i).any (fun b => b.mark.toList == m.toList) = false
def BrAlone (l : List Br) (i : Nat) (h : i < l.length) : Prop :=
  within l[i].id 1 1073741824 = true ∧ within l[i].level 1 4 = true ∧ (0 < i → (l[i - 1]'(by omega)).id < l[i].id) ∧ nameF l[i].title.data.toList = true ∧ markOk l i l[i].mark
def BrPlaced (l : List Br) (b : Br) : Prop := if b.parent = 0 then b.level = 1 else ∃ p, brFind l b.parent = some p ∧ b.level ≠ 1 ∧ fitsF p.level b.level = true
def kidsOf (l : List Br) (id : Int) : List Int := (l.filter fun b => b.parent == id).map Br.id
def sortI (l : List Int) : List Int := l.mergeSort fun x y => decide (x ≤ y)
/-- How many units are on the way to the top. -/
def deep (l : List Br) : Nat → Br → Option Nat
  | 0, b => if b.parent = 0 then some 1 else none
  | n + 1, b => if b.parent = 0 then some 1 else match brFind l b.parent with
    | none => none
    | some p => (deep l n p).map (· + 1)
def BrDeep (l : List Br) (b : Br) : Prop := ∃ d, deep l l.length b = some d ∧ d ≤ 12
/-- A right tree. -/
def RightT (t : Tr) : Prop := t.brs.length ≤ 256 ∧ (∀ i (h : i < t.brs.length), BrAlone t.brs i h) ∧ (∀ i (h : i < t.brs.length), BrPlaced t.brs t.brs[i]) ∧ (∀ i (h : i < t.brs.length), sortI t.brs[i].kids = kidsOf t.brs t.brs[i].id) ∧
  sortI t.roots = kidsOf t.brs 0 ∧ ∀ i (h : i < t.brs.length), BrDeep t.brs t.brs[i]
theorem brIdx_none {l : List Br} {id : Int} (h : brFind l id = none) : brIdx l id = -1 := by
  refine idxP_miss _ l (fun i hi => ?_)
  have := List.find?_eq_none.1 h l[i] (List.getElem_mem hi)
  simpa using this
theorem brIdx_some {l : List Br} {id : Int} {b : Br} (h : brFind l id = some b) : ∃ k, ∃ hk : k < l.length, brIdx l id = (k : Int) ∧ l[k] = b := by
  obtain ⟨hb, k, hk, e, hbef⟩ := List.find?_eq_some_iff_getElem.1 h
  refine ⟨k, hk, idxP_hit _ l k hk (by rw [e]; exact hb) (fun i hi hik => by simpa using hbef i hik), e⟩
end Go.Proofs.YtafncfomiolmgaaGreatDoor

/- Ascending lists of numbers, and the holders of a role, plainly. No condition. -/
namespace Go.Proofs.YtafncfomiolmgaaGreatDoor
open Go.RowKit

def Asc (l : List Int) : Prop := l.Pairwise (· < ·)
theorem asc_ext : ∀ {l m : List Int}, Asc l → Asc m → (∀ x, x ∈ l ↔ x ∈ m) → l = m
  | [], [], _, _, _ => rfl
  | [], y :: m, _, _, h => by have := (h y).2 (by simp); simp at this
  | x :: l, [], _, _, h => by have := (h x).1 (by simp); simp at this
  | x :: l, y :: m, hl, hm, h => by
    have hl' := List.pairwise_cons.1 hl
    have hm' := List.pairwise_cons.1 hm
    have hxy : x = y := by
      have h1 := (h x).1 (by simp)
      have h2 := (h y).2 (by simp)
      rcases List.mem_cons.1 h1 with e | h1
      · exact e
      · rcases List.mem_cons.1 h2 with e | h2
        · exact e.symm
        · have a := hm'.1 x h1
          have b := hl'.1 y h2
          omega
    subst hxy
    rw [asc_ext hl'.2 hm'.2 (fun z => ?_)]
    constructor
    · intro hz
      have h1 := (h z).1 (by simp [hz])
      rcases List.mem_cons.1 h1 with e | h1
      · subst e
        have := hl'.1 z hz
        omega
      · exact h1
    · intro hz
      have h1 := (h z).2 (by simp [hz])
      rcases List.mem_cons.1 h1 with e | h1
      · subst e
        have := hm'.1 z hz
        omega
      · exact h1
theorem sortI_asc (l : List Int) (h : l.Nodup) : Asc (sortI l) := by
  have h1 : (sortI l).Pairwise fun a b => decide (a ≤ b) = true := List.pairwise_mergeSort (fun a b c => by simp; omega) (fun a b => by simp; omega) l
  have h2 : (sortI l).Nodup := (List.mergeSort_perm l _).nodup_iff.2 h
  refine List.Pairwise.imp₂ (R := fun a b => decide (a ≤ b) = true) (S := (· ≠ ·)) (fun a b k1 k2 => ?_) h1 h2
  simp at k1
  omega
theorem mem_sortI (l : List Int) (x : Int) : x ∈ sortI l ↔ x ∈ l := (List.mergeSort_perm l _).mem_iff
end Go.Proofs.YtafncfomiolmgaaGreatDoor

/-
  DERIVED: THE SHELF's CONTRACTS AT THIS DUMP, IN PLAIN WORDS (tools/lay-plain.mjs out of 'YtafncfomiolmgaaGreatDoorShelf2.lean', which tools/lay-shelf.mjs wrote): THE SAME DECLARATIONS UNDER THE SAME NAMES: 'import', 'namespace', 'open', 'def', 'theorem' AND NOTHING ELSE: no command of the shelf's: FOR A HAND-IN. Each laying: the table of numbers ('.._ren') and one theorem, a field a fact of the dump's own or the kernel's comparison; each contract: ONE APPLICATION.
-/
namespace Go.Proofs
open Go.Shelf
def Tryz.laysM171_ren : Go.Shelf.Ren := ⟨fun | 171 => 39 | 243 => 82 | 246 => 129 | 283 => 166 | 284 => 167 | 285 => 168 | 286 => 169 | 129 => 157 | 317 => 183 | 318 => 184 | 319 => 185 | 320 => 186 | 337 => 194 | 338 => 195 | n => n, fun | 3 => 3 | 9 => 9 | 2 => 2 | 4 => 4 | 171 => 151 | 0 => 0 | 53 => 148 | 37 => 89 | 5 => 5 | 173 => 153 | 212 => 166 | 51 => 146 | 20 => 20 | 213 => 167 | 46 => 113 | 232 => 175 | 233 => 176 | n => n, fun | 17 => 0 | 18 => 2 | 19 => 3 | n => n⟩
theorem Tryz.laysM171 : Go.Proofs.LaysM.n171 Tryz.prog Tryz.laysM171_ren := {
  mixed := by kernel_rfl
  f129 := Tryz.func157.trans (congrArg some (by kernel_rfl))
  f171 := Tryz.func39.trans (congrArg some (by kernel_rfl))
  f243 := Tryz.func82.trans (congrArg some (by kernel_rfl))
  f246 := Tryz.func129.trans (congrArg some (by kernel_rfl))
  f283 := Tryz.func166.trans (congrArg some (by kernel_rfl))
  f284 := Tryz.func167.trans (congrArg some (by kernel_rfl))
  f285 := Tryz.func168.trans (congrArg some (by kernel_rfl))
  f286 := Tryz.func169.trans (congrArg some (by kernel_rfl))
  f317 := Tryz.func183.trans (congrArg some (by kernel_rfl))
  f318 := Tryz.func184.trans (congrArg some (by kernel_rfl))
  f319 := Tryz.func185.trans (congrArg some (by kernel_rfl))
  f320 := Tryz.func186.trans (congrArg some (by kernel_rfl))
  f337 := Tryz.func194.trans (congrArg some (by kernel_rfl))
  f338 := Tryz.func195.trans (congrArg some (by kernel_rfl))
  t0 := Tryz.underlying0
  a0 := Tryz.isAgg0
  z0 := Tryz.sizeOf0
  v0 := Tryz.zeroValue0
  t2 := Tryz.underlying2
  a2 := Tryz.isAgg2
  z2 := Tryz.sizeOf2
  v2 := Tryz.zeroValue2
  t3 := Tryz.underlying3
  a3 := Tryz.isAgg3
  z3 := Tryz.sizeOf3
  v3 := Tryz.zeroValue3
  t4 := Tryz.underlying4
  a4 := Tryz.isAgg4
  z4 := Tryz.sizeOf4
  v4 := Tryz.zeroValue4
  t5 := Tryz.underlying5
  a5 := Tryz.isAgg5
  z5 := Tryz.sizeOf5
  v5 := Tryz.zeroValue5
  t9 := Tryz.underlying9
  a9 := Tryz.isAgg9
  z9 := Tryz.sizeOf9
  v9 := Tryz.zeroValue9
  t20 := Tryz.underlying20
  a20 := Tryz.isAgg20
  z20 := Tryz.sizeOf20
  v20 := Tryz.zeroValue20
  t37 := Tryz.underlying89
  a37 := Tryz.isAgg89
  z37 := Tryz.sizeOf89
  v37 := Tryz.zeroValue89
  t46 := Tryz.underlying113
  a46 := Tryz.isAgg113
  z46 := Tryz.sizeOf113
  v46 := Tryz.zeroValue113
  t51 := Tryz.underlying146
  a51 := Tryz.isAgg146
  z51 := Tryz.sizeOf146
  v51 := Tryz.zeroValue146
  t53 := Tryz.underlying148
  a53 := Tryz.isAgg148
  z53 := Tryz.sizeOf148
  v53 := Tryz.zeroValue148
  t171 := Tryz.underlying151
  a171 := Tryz.isAgg151
  z171 := Tryz.sizeOf151
  v171 := Tryz.zeroValue151
  t173 := Tryz.underlying153
  a173 := Tryz.isAgg153
  z173 := Tryz.sizeOf153
  v173 := Tryz.zeroValue153
  t212 := Tryz.underlying166
  a212 := Tryz.isAgg166
  z212 := Tryz.sizeOf166
  v212 := Tryz.zeroValue166
  t213 := Tryz.underlying167
  a213 := Tryz.isAgg167
  z213 := Tryz.sizeOf167
  t232 := Tryz.underlying175
  a232 := Tryz.isAgg175
  z232 := Tryz.sizeOf175
  v232 := Tryz.zeroValue175
  t233 := Tryz.underlying176
  a233 := Tryz.isAgg176
  z233 := Tryz.sizeOf176
  v233 := Tryz.zeroValue176
  g17 := by kernel_rfl
  g18 := by kernel_rfl
  g19 := by kernel_rfl
  i0 := by kernel_rfl
  i2 := by kernel_rfl
  i3 := by kernel_rfl
  i4 := by kernel_rfl
  i5 := by kernel_rfl
  i9 := by kernel_rfl
  i20 := by kernel_rfl
  i37 := by kernel_rfl
  i46 := by kernel_rfl
  i51 := by kernel_rfl
  i53 := by kernel_rfl
  i171 := by kernel_rfl
  i173 := by kernel_rfl
  i212 := by kernel_rfl
  i232 := by kernel_rfl
  i233 := by kernel_rfl
  m17 := by kernel_rfl
  m18 := by kernel_rfl
  m19 := by kernel_rfl }
open Go.RowKit Go.Sort Go.Lib in
theorem Tryz.strconv_Itoa (n : Int) (h0 : -9223372036854775808 ≤ n) (h1 : n ≤ 9223372036854775807) (w : World) (htab : Lib.TabIs Tryz.prog w "internal/strconv.uint64pow10" .u64 Lib.pow10Tab) :
    Calls Tryz.prog 39 #[.int .i64 n] w fun e w' => e = .returned (.string ⟨(Lib.itoa n).toArray⟩) ∧ ∃ k os, w' = grow (w.drewN k) os := Any.strconv_Itoa Tryz.laysM171 n h0 h1 w htab
end Go.Proofs
