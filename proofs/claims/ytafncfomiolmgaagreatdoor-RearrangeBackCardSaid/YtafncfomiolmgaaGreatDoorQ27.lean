/- Lemmas on what the functions of the program and of the library compute: Lap, ConB, Cmp, Ch, Lcm, PlainTl, Ll1. The conditions stand at each. -/
import Derived.Test.YtafncfomiolmgaaGreatDoorQ24
import Derived.Test.YtafncfomiolmgaaGreatDoorQ25
import Derived.Test.YtafncfomiolmgaaGreatDoorQ26
import Derived.Test.YtafncfomiolmgaaGreatDoorQ7
import Derived.Test.YtafncfomiolmgaaGreatDoorQ1
import Derived.Test.YtafncfomiolmgaaGreatDoorQ4
import Derived.Test.YtafncfomiolmgaaGreatDoorQ11
import Derived.Test.YtafncfomiolmgaaGreatDoorQ9
import Derived.Sort.OwnSortedInts
import Derived.Test.YtafncfomiolmgaaGreatDoorQ19
import Derived.Test.YtafncfomiolmgaaGreatDoorQ21
import Derived.Maps.AppendAt
import Derived.Test.YtafncfomiolmgaaGreatDoorQ10
import Derived.Test.YtafncfomiolmgaaGreatDoorQ8
import Derived.Deep.CutRange
import Derived.Deep.RegionHeld3
import Derived.BigQuiet
import Derived.Test.YtafncfomiolmgaaGreatDoorQ12
/- A tree that a call returns, laid into a box that the statement made: what the laws know behind it. No condition. -/
namespace Go.Proofs.YtafncfomiolmgaaGreatDoor
open Go.RowKit

/-- A row of values that are no empty slices does not lie in a box of two empty slices; so it stays where the box is written. -/
theorem rd_setT {W : World} {X k : Nat} {t : TypeId} {v x y : Value} {cs : List Value} (hX : W.heap[X]? = some (.cells #[.slice none 0 0, .slice none 0 0] t (0, 0))) (h : Rd W k v cs) (hk : 0 < k) (hi : ∀ c, cs[0]? = some c → c ≠ .slice none 0 0) : Rd ((W.setCell ⟨X, 0, none⟩ x).setCell ⟨X, 1, none⟩ y) k v cs := by
  obtain ⟨A, n, c, rfl, hl, hn, hc, h0⟩ := h
  refine ⟨A, n, c, rfl, hl, hn, hc, fun hpos => ?_⟩
  obtain ⟨b, off, rfl, hb, hcell⟩ := h0 hpos
  have hne : b ≠ X := by
    intro e
    subst e
    have hlen : 0 < cs.length := by
      rw [hl]
      exact Nat.mul_pos hpos hk
    have h1 := hcell 0 cs[0] (by rw [List.getElem?_eq_getElem hlen])
    have h2 := hi cs[0] (by rw [List.getElem?_eq_getElem hlen])
    simp [World.cell?, hX] at h1
    match off, h1 with
    | 0, h1 => simp at h1; exact h2 h1.symm
    | 1, h1 => simp at h1; exact h2 h1.symm
    | n + 2, h1 => simp at h1
  refine ⟨b, off, rfl, by simpa using hb, fun j u hu => ?_⟩
  rw [World.cell?_setCell_other _ _ _ _ (adr_ne hne.symm), World.cell?_setCell_other _ _ _ _ (adr_ne hne.symm)]
  exact hcell j u hu
theorem TrOk.setT {W : World} {X : Nat} {ty : TypeId} {rv bv x y : Value} {t : Tr} (hX : W.heap[X]? = some (.cells #[.slice none 0 0, .slice none 0 0] ty (0, 0))) (h : TrOk W rv bv t) : TrOk ((W.setCell ⟨X, 0, none⟩ x).setCell ⟨X, 1, none⟩ y) rv bv t := by
  have hI : ∀ (l : List Int) c, (l.flatMap oneI)[0]? = some c → c ≠ .slice none 0 0 := fun l c hc => by
    cases l with
    | nil => cases hc
    | cons a r =>
      have : some (Value.int .i64 a) = some c := hc
      injection this with this
      rw [← this]
      intro e
      cases e
  obtain ⟨h1, cs, h2, h3, h4⟩ := h
  refine ⟨rd_setT hX h1 (by omega) (hI _), cs, rd_setT hX h2 (by omega) (fun c hc => ?_), h3, fun i hi hi' => ⟨(h4 i hi hi').1, rd_setT hX (h4 i hi hi').2 (by omega) (hI _)⟩⟩
  cases cs with
  | nil => cases hc
  | cons a r =>
    have : some (Value.int .i64 a.id) = some c := hc
    injection this with this
    rw [← this]
    intro e
    cases e
/-- Behind the statement: the tree lies in a box, the number beside it. -/
def ApCut (WA : World) (R : Tr × Int) (s2 s3 : Value) (wx : World) : Prop := ∃ X rv bv, s2 = .pointer (some ⟨X, 0, none⟩) ∧ s3 = .int .i64 R.2 ∧ wx.cell? ⟨X, 0, none⟩ = some rv ∧ wx.cell? ⟨X, 1, none⟩ = some bv ∧ TrOk wx rv bv R.1 ∧ Grew WA wx
theorem ap_meet {WA W : World} {R : Tr × Int} {X : Nat} {rv bv : Value} (hX : W.heap[X]? = some (.cells #[.slice none 0 0, .slice none 0 0] 35 (0, 0))) (hlo : WA.heap.size ≤ X) (hG : Grew WA W) (h : TrOk W rv bv R.1) : ApCut WA R (.pointer (some ⟨X, 0, none⟩)) (.int .i64 R.2) ((W.setCell ⟨X, 0, none⟩ rv).setCell ⟨X, 1, none⟩ bv) := by
  have c0 : W.cell? ⟨X, 0, none⟩ = some (.slice none 0 0) := by simp [World.cell?, hX]
  have c1 : W.cell? ⟨X, 1, none⟩ = some (.slice none 0 0) := by simp [World.cell?, hX]
  obtain ⟨q0, q1⟩ := res_cells (v0 := rv) (v1 := bv) c0 c1
  exact ⟨X, rv, bv, rfl, rfl, q0, q1, h.setT hX, (hG.setCell hlo _).setCell hlo _⟩
theorem ap_meet2 {WA W : World} {R : Tr × Int} {rv bv : Value} (hG : Grew WA W) (h : TrOk W rv bv R.1) : ApCut WA R (.pointer (some ⟨W.heap.size, 0, none⟩)) (.int .i64 R.2) (W.alloc (.cells #[rv, bv] 35)) :=
  ⟨_, rv, bv, rfl, rfl, new_cell (Grew.refl _) 0 _ rfl, new_cell (Grew.refl _) 1 _ rfl, h.mono ((Grew.refl _).alloc _), hG.alloc _⟩
end Go.Proofs.YtafncfomiolmgaaGreatDoor

/- slices.Grow of nothing and slices.Concat of two lists, at branches. No condition but the sizes that a slice can have. -/
namespace Go.Proofs.YtafncfomiolmgaaGreatDoor
open Go.RowKit

theorem zerosG (w : World) (n : Nat) (h0 : 0 < n) (hn : n ≤ 1000000) :
    ∃ (G : Nat) (Z : List Value) (w1 : World), (∀ ty, (Builtin.append_ #[33, 3] ty #[.slice none 0 0, .int .i64 (n : Int)]).run Tryz.prog w = .ok (.slice (some ⟨w.heap.size, 0, none⟩) n G) w1) ∧
      n ≤ G ∧ G ≤ maxLen ∧ w1.heap[w.heap.size]? = some (.cells Z.toArray 53 (0, 0)) ∧ Z.length = G * 6 ∧ Grew w w1 := by
  obtain ⟨i0, hi0, hz0, hz1, hz2⟩ := info_parts cinfoB
  have hold : (Builtin.firstCells i0.size 0 (.slice none 0 0)).run Tryz.prog w.drew = .ok ([] : List Value).toArray w.drew := by
    simp [Builtin.firstCells]
  have h := fun ty => Lib.run_append_grow_zeros w 33 3 ty 53 i0 _ .i64 .i64 Tryz.underlying33 Tryz.underlying3 hi0 hz0 none 0 0 [] hold n h0 (by omega) (by omega) (by omega) (by rw [hz2]; omega) (by rw [hz2, Nat.zero_add]; exact growslice_fits h0 (by omega))
  simp only [Nat.zero_add] at h
  obtain ⟨ZC, hZC⟩ : ∃ ZC, ZC = (Value.agg #[.int .i64 0, .int .i64 0, .int .i64 0, .string ⟨#[]⟩, .string ⟨#[]⟩, .slice none 0 0]).cells := ⟨_, rfl⟩
  have hZs : ZC.size = 6 := by rw [hZC]; rfl
  rw [← hZC] at h
  refine ⟨_, (Builtin.zeroCells ZC n ++ Builtin.zeroCells ZC (grownCap w n 0 53 - n)).toList, _, h, grownCap_ge w _ _ _, grownCap_le_maxLen w n 0 _ (by unfold maxLen; omega), ?_, ?_, (Grew.refl w).drew.alloc _⟩
  · have := heap_alloc_last w.drew (.cells (([] : List Value).toArray ++ Builtin.zeroCells ZC n ++ Builtin.zeroCells ZC (grownCap w n 0 53 - n)) 53 (0, 0))
    rw [show ((Builtin.zeroCells ZC n ++ Builtin.zeroCells ZC (grownCap w n 0 53 - n)).toList).toArray = ([] : List Value).toArray ++ Builtin.zeroCells ZC n ++ Builtin.zeroCells ZC (grownCap w n 0 53 - n) by simp]
    exact this
  · have h9 := grownCap_ge w n 0 53
    simp only [Builtin.zeroCells, hZs, Array.toList_append, List.length_append, Array.length_toList, Array.size_map, Array.size_range]
    rw [← Nat.add_mul]
    generalize grownCap w n 0 53 = X at h9 ⊢
    rw [show n + (X - n) = X by omega]
set_option maxHeartbeats 2000000 in
/-- slices.Grow(nil, n). -/
theorem growNil (n : Nat) (w : World) (hn : n ≤ 1000000) :
    Calls Tryz.prog 106 #[.slice none 0 0, .int .i64 n] w fun e w' => ∃ v, e = .returned v ∧ w'.ownsRow w.heap.size 53 6 v 0 [] ∧ Grew w w' := by
  by_cases h0 : n = 0
  · subst h0
    go_enter Tryz.func106, Tryz.ntmps106
    go_wp2
    go_ret
    exact ⟨_, rfl, World.ownsRow_nil _ _ _ _, Grew.refl w⟩
  · obtain ⟨G, Z, w1, hrun, hG1, hG2, hh, hZ, hg⟩ := zerosG w n (by omega) hn
    unfold maxLen at hG2
    have h1 : ¬ ((n : Int) < 0) := by omega
    have h2 : (0 : Int) < (n : Int) := by omega
    have h3 : 0 < n := by omega
    have HR := Lib.hid (show w1.ownsRow w.heap.size 53 6 (.slice (some ⟨w.heap.size, 0, none⟩) 0 G) 0 [] from ⟨rfl, .inr ⟨w.heap.size, G, Z.toArray, rfl, Nat.le_refl _, hh, Nat.zero_le _, by unfold maxLen; omega, by simpa using hZ, by simp⟩⟩)
    have HG := Lib.hid hg
    clear hh hZ hg
    go_enter Tryz.func106, Tryz.ntmps106
    go_wp2_with (at_builtin; refine Lib.wpList_append_run _ rfl _ _ _ _ rfl _ _ rfl rfl _ _ (hrun _) ?_)
    go_ret
    exact ⟨_, rfl, HR.out, HG.out⟩
set_option maxHeartbeats 4000000 in
set_option maxRecDepth 100000 in
/-- slices.Concat of two lists of branches. -/
theorem concatB (la lb : List BrC) (va vb : Value) (B : Nat) (w : World) (h0 : w.cell? ⟨B, 0, none⟩ = some va) (h1 : w.cell? ⟨B, 1, none⟩ = some vb) (ha : SlB w va la) (hb : SlB w vb lb) (hla : la.length ≤ 1000) (hlb : lb.length ≤ 1000) (hca : ∀ c ∈ la, c.kv.oneCell' = true) (hcb : ∀ c ∈ lb, c.kv.oneCell' = true) :
    Calls Tryz.prog 64 #[.slice (some ⟨B, 0, none⟩) 2 2] w fun e w' => ∃ v, e = .returned v ∧ w'.ownsRow w.heap.size 53 6 v (la.length + lb.length) ((la ++ lb).flatMap BrC.cells) ∧ Grew w w' := by
  obtain ⟨Aa, na, ca, rfl, hal, han, hac, har⟩ := ha
  obtain ⟨Ab, nb, cb, rfl, hbl, hbn, hbc, hbr⟩ := hb
  have hfa := flatMap_len BrC.cells 6 (fun _ => rfl) la
  have hfb := flatMap_len BrC.cells 6 (fun _ => rfl) lb
  obtain rfl : na = la.length := by omega
  obtain rfl : nb = lb.length := by omega
  have HA := Lib.hid (show Rd w 6 (.slice Aa la.length ca) (la.flatMap BrC.cells) from ⟨Aa, _, ca, rfl, hal, han, hac, har⟩)
  have HB := Lib.hid (show Rd w 6 (.slice Ab lb.length cb) (lb.flatMap BrC.cells) from ⟨Ab, _, cb, rfl, hbl, hbn, hbc, hbr⟩)
  have H1A := Lib.hid (one_cellsB la hca)
  have H1B := Lib.hid (one_cellsB lb hcb)
  have HFA := Lib.hid hfa
  have HFB := Lib.hid hfb
  unfold maxLen at hac hbc
  obtain ⟨i0, hi, hz0, hz1, hz2⟩ := info_parts cinfoB
  clear hal har hbl hbr hfa hfb hca hcb
  rw [List.flatMap_append]
  generalize la.flatMap BrC.cells = xa at HA H1A HFA ⊢
  generalize lb.flatMap BrC.cells = xb at HB H1B HFB ⊢
  generalize la.length = na at hla han hac HA HFA h0 ⊢
  generalize lb.length = nb at hlb hbn hbc HB HFB h1 ⊢
  have kG := growNil (na + nb) w (by omega)
  rw [show ((na + nb : Nat) : Int) = (na : Int) + (nb : Int) by omega] at kG
  have KG := Lib.hid kG
  clear kG
  have H01 := Lib.hid (fun (W : World) (g : Grew w W) => (⟨(g.cell (World.block_lt_of_cell? _ _ h0)).trans h0, (g.cell (World.block_lt_of_cell? _ _ h1)).trans h1⟩ : W.cell? ⟨B, 0, none⟩ = some (.slice Aa na ca) ∧ W.cell? ⟨B, 1, none⟩ = some (.slice Ab nb cb)))
  have hs1 : ¬ ((na : Int) < 0) := by omega
  have hs2 : ¬ ((na : Int) + (nb : Int) < 0) := by omega
  go_enter Tryz.func64, Tryz.ntmps64
  go_wp2
  refine wp_loop_rounds 3 ?_
  rw [rounds_succ]
  go_wp2
  rw [rounds_succ]
  go_wp2
  rw [rounds_succ]
  go_wp2_with fail
  refine KG.out.mono ?_
  rintro e w1 ⟨v1, rfl, o1, g1⟩
  obtain ⟨c0, c1⟩ := H01.out w1 g1
  have HO1 := Lib.hid o1
  have HG1 := Lib.hid g1
  clear o1 g1
  dsimp only
  go_wp2
  refine wp_loop_rounds 3 ?_
  rw [rounds_succ]
  go_wp2_with (first | (at_builtin; refine appR rfl _ _ 33 rfl w 53 i0 (.agg #[.int .i64 0, .int .i64 0, .int .i64 0, .string ⟨#[]⟩, .string ⟨#[]⟩, .slice none 0 0]) 6 80 Tryz.underlying33 hi hz0 hz1 hz2 rfl (by omega) v1 0 [] (by rfl) _ HO1.out HG1.out (.slice Aa na ca) na xa (by rfl) (HA.out.mono HG1.out) HFA.out H1A.out (by unfold maxLen; omega) (by omega) ?_; intro v2 w2 o2 g2 k2))
  obtain ⟨d0, d1⟩ := H01.out w2 g2
  have HO2 := Lib.hid o2
  have HG2 := Lib.hid g2
  clear o2 g2 k2 c0 c1
  rw [rounds_succ]
  go_wp2_with (first | (at_builtin; refine appR rfl _ _ 33 rfl w 53 i0 (.agg #[.int .i64 0, .int .i64 0, .int .i64 0, .string ⟨#[]⟩, .string ⟨#[]⟩, .slice none 0 0]) 6 80 Tryz.underlying33 hi hz0 hz1 hz2 rfl (by omega) v2 (0 + na) ([] ++ xa) (by rfl) _ HO2.out HG2.out (.slice Ab nb cb) nb xb (by rfl) (HB.out.mono HG2.out) HFB.out H1B.out (by unfold maxLen; omega) (by omega) ?_; intro v3 w3 o3 g3 k3))
  have HO3 := Lib.hid o3
  have HG3 := Lib.hid g3
  clear o3 g3 k3
  rw [rounds_succ]
  go_wp2
  go_ret
  refine ⟨_, rfl, ?_, HG3.out⟩
  have h3 := HO3.out
  rw [Nat.zero_add, List.nil_append] at h3
  exact h3
end Go.Proofs.YtafncfomiolmgaaGreatDoor

/- slices.Sort and slices.Compact behind it: a list that ascends and has the same numbers. No condition but the sizes that a slice can have. -/
namespace Go.Proofs.YtafncfomiolmgaaGreatDoor
open Go.RowKit

theorem mem_cmpUpTo (d : Array Int) (x : Int) : ∀ m, x ∈ Lib.compactUpTo d m ↔ ∃ j, j < m ∧ d[j]! = x
  | 0 => by simp [Lib.compactUpTo]
  | m + 1 => by
    rw [Lib.compactUpTo_succ, List.mem_append, mem_cmpUpTo d x m]
    constructor
    · rintro (⟨j, hj, e⟩ | h2)
      · exact ⟨j, by omega, e⟩
      · cases hk : Lib.keeps d m
        · rw [hk] at h2; simp at h2
        · rw [hk, if_pos rfl, List.mem_singleton] at h2; exact ⟨m, by omega, h2.symm⟩
    · rintro ⟨j, hj, e⟩
      by_cases hjm : j < m
      · exact .inl ⟨j, hjm, e⟩
      · obtain rfl : j = m := by omega
        cases hk : Lib.keeps d j
        · unfold Lib.keeps at hk
          rw [decide_eq_false_iff_not, not_or, Decidable.not_not] at hk
          exact .inl ⟨j - 1, by omega, by rw [← hk.2, e]⟩
        · exact .inr (by rw [if_pos rfl, e]; exact List.mem_singleton.2 rfl)
theorem mem_cmp (l : List Int) (x : Int) : x ∈ Lib.compact l ↔ x ∈ l := by
  unfold Lib.compact
  rw [mem_cmpUpTo, List.mem_iff_getElem]
  constructor
  · rintro ⟨j, hj, e⟩
    exact ⟨j, hj, by rw [← e, getElem!_pos l.toArray j (by simpa using hj)]; simp⟩
  · rintro ⟨j, hj, e⟩
    exact ⟨j, hj, by rw [← e, getElem!_pos l.toArray j (by simpa using hj)]; simp⟩
theorem cmp_asc (d : Array Int) (hd : ∀ i j, i < j → j < d.size → d[i]! ≤ d[j]!) : ∀ m, m ≤ d.size → Asc (Lib.compactUpTo d m) ∧ ∀ x ∈ Lib.compactUpTo d m, 0 < m ∧ x ≤ d[m - 1]!
  | 0, _ => ⟨by simp [Lib.compactUpTo, Asc], fun x hx => by simp [Lib.compactUpTo] at hx⟩
  | m + 1, h => by
    obtain ⟨h1, h2⟩ := cmp_asc d hd m (by omega)
    have hle : ∀ x ∈ Lib.compactUpTo d m, x ≤ d[m]! := fun x hx => by
      obtain ⟨h0, hx2⟩ := h2 x hx
      exact Int.le_trans hx2 (hd (m - 1) m (by omega) (by omega))
    rw [Lib.compactUpTo_succ]
    cases hk : Lib.keeps d m
    · refine ⟨by simpa using h1, fun x hx => ⟨by omega, ?_⟩⟩
      exact hle x (by simpa using hx)
    · refine ⟨?_, fun x hx => ⟨by omega, ?_⟩⟩
      · unfold Asc
        rw [if_pos rfl, List.pairwise_append]
        refine ⟨h1, by simp, fun x hx y hy => ?_⟩
        rw [List.mem_singleton] at hy
        subst hy
        obtain ⟨h0, hx2⟩ := h2 x hx
        have hne : d[m]! ≠ d[m - 1]! := by
          unfold Lib.keeps at hk
          have := of_decide_eq_true hk
          rcases this with h | h
          · omega
          · exact h
        have h3 := hd (m - 1) m (by omega) (by omega)
        omega
      · rw [if_pos rfl] at hx
        rcases List.mem_append.1 hx with hx | hx
        · exact hle x hx
        · rw [List.mem_singleton] at hx
          rw [hx]
          exact Int.le_refl _
theorem cmp_sorted {l : List Int} (h : l.Pairwise (· ≤ ·)) : Asc (Lib.compact l) := by
  unfold Lib.compact
  refine (cmp_asc l.toArray (fun i j hij hj => ?_) l.length (by simp)).1
  have hj' : j < l.length := by simpa using hj
  rw [getElem!_pos l.toArray i (by simp; omega), getElem!_pos l.toArray j hj]
  simp only [List.getElem_toArray]
  exact List.pairwise_iff_getElem.1 h i j (by omega) hj' hij
theorem sortI_sorted (l : List Int) : (sortI l).Pairwise (· ≤ ·) := by
  have := List.pairwise_mergeSort (le := fun x y : Int => decide (x ≤ y)) (fun a b c h1 h2 => by simp at *; omega) (fun a b => by simp; omega) l
  refine List.Pairwise.imp ?_ this
  intro a b h
  simpa using h
theorem cmp_sort (l : List Int) : Asc (Lib.compact (sortI l)) ∧ ∀ x, x ∈ Lib.compact (sortI l) ↔ x ∈ l :=
  ⟨cmp_sorted (sortI_sorted l), fun x => by rw [mem_cmp]; exact List.mem_mergeSort⟩
theorem sort_len (l : List Int) : (sortI l).length = l.length := (List.mergeSort_perm l _).length_eq
/-- slices.Sort on a row of the call's own: it stays the call's own. -/
theorem sort_keep (l : List Int) (w0 : World) (e : TypeId) (v : Value) (w : World) (hown : w.ownsRow w0.heap.size e 1 v l.length (l.flatMap oneI)) (hg : Grew w0 w) (hl : l.length ≤ 1000000) :
    Calls Tryz.prog 65 #[v] w fun en w' => en = .returned (.tuple #[]) ∧ w'.ownsRow w0.heap.size e 1 v (sortI l).length ((sortI l).flatMap oneI) ∧ Grew w0 w' := by
  rcases Nat.eq_zero_or_pos l.length with h0 | h0
  · obtain rfl : l = [] := List.eq_nil_of_length_eq_zero h0
    have hv : ∃ A c, v = .slice A 0 c := by
      rcases hown.2 with ⟨rfl, _⟩ | ⟨g, cap, cur, rfl, _⟩
      · exact ⟨_, _, rfl⟩
      · exact ⟨_, _, rfl⟩
    obtain ⟨A, c, rfl⟩ := hv
    refine (Tryz.slices_Sort_int_none A c w).mono ?_
    rintro en w' ⟨rfl, rfl⟩
    refine ⟨rfl, ?_, hg⟩
    rw [show sortI [] = [] by simp [sortI]]
    exact hown
  · have hH0 := hown
    rcases hown.2 with ⟨_, hz⟩ | ⟨g, cap, cur, rfl, hbg, hh, h1, h2, h3, h4⟩
    · omega
    have hlt : g < w.heap.size := (Array.getElem?_eq_some_iff.1 hh).1
    have hH := holdsI_of_own hH0
    refine (Tryz.slices_Sort_int g 0 cap l w hH hlt (by omega)).mono ?_
    rintro en w' ⟨rfl, n, os, rfl⟩
    have hl2 : (sortI l).length = l.length := (List.mergeSort_perm l _).length_eq
    refine ⟨rfl, ?_, grew_sortedI hbg hg _ _ _⟩
    rw [flat_int, hl2]
    exact ownsRow_sortedI hl2 hbg hh h1 h2 h3
end Go.Proofs.YtafncfomiolmgaaGreatDoor

/- rearrange.Changed, walked. The conditions: the library's own variables hold what they must; the lists are short. -/
namespace Go.Proofs.YtafncfomiolmgaaGreatDoor
open Go.RowKit Go.Maps

/-- The unit of a branch's cells. -/
def unitOf (c : BrC) : Br := ⟨c.id, c.parent, c.level, c.title, c.mark, []⟩
theorem units_of {w : World} {cs : List BrC} {l : List Br} (hl : cs.length = l.length) (h : ∀ i (h : i < cs.length) (h' : i < l.length), BrOk w cs[i] l[i]) : cs.map unitOf = l.map core := by
  refine List.ext_getElem (by simp [hl]) fun i h1 h2 => ?_
  have h3 : i < cs.length := by simpa using h1
  have h4 : i < l.length := by simpa using h2
  rw [List.getElem_map, List.getElem_map, (h i h3 h4).1]
  rfl
/-- Units of a right tree are such as a value can hold. -/
theorem wf_units {t : Tr} (h : SoundM t) : ∀ u ∈ t.brs.map core, WfU u := by
  intro u hu
  obtain ⟨b, hb, rfl⟩ := List.mem_map.1 hu
  obtain ⟨h1, h2, h3, h4⟩ := h.units b hb
  have hp := h.placed b hb
  rw [within_t] at h1 h2
  have hpar : 0 ≤ b.parent ∧ b.parent ≤ 1073741824 := by
    unfold BrPlaced at hp
    by_cases h0 : b.parent = 0
    · omega
    · rw [if_neg h0] at hp
      obtain ⟨p, hp, -⟩ := hp
      have h5 := (h.units p (find_in hp).1).1
      rw [within_t, (find_in hp).2] at h5
      omega
  have ht : b.title.size ≤ 64 := nameF_size h3
  have hm : b.mark.size ≤ 64 := by
    cases hmm : b.mark.toList.isEmpty
    · have := h4 hmm
      unfold markF at this
      simp only [Bool.and_eq_true, decide_eq_true_eq] at this
      have h6 := this.1.2
      rw [size_data] at h6
      exact h6
    · have : b.mark = ⟨#[]⟩ := emptyS_iff.1 hmm
      rw [this]
      decide
  refine ⟨?_, ?_, ?_, ?_, ?_, rfl⟩
  · exact WalkArith.wf_i64 (n := b.id) (by omega)
  · exact WalkArith.wf_i64 (n := b.parent) (by omega)
  · exact WalkArith.wf_i64 (n := b.level) (by omega)
  · show b.title.size ≤ maxLen
    unfold maxLen
    omega
  · show b.mark.size ≤ maxLen
    unfold maxLen
    omega
/-- How Changed ends. -/
def RetChg (a b : Tr) (w : World) (e : Ending) (w' : World) : Prop := ∃ v n l, e = .returned (.tuple #[v, .int .i64 n]) ∧ SlI w' v l ∧ Grew w w' ∧ (RightT a ∧ RightT b → n = 0 ∧ ChgIs a b l) ∧ (¬ (RightT a ∧ RightT b) → n = 1 ∧ l = [])
set_option maxHeartbeats 4000000 in
theorem rChangedNo (a b : Tr) (ra ba rb bb : Value) (w : World) (hE : Env w) (har : SlI w ra a.roots) (hav : SlBr w ba a.brs) (hbr : SlI w rb b.roots) (hbv : SlBr w bb b.brs) (hfa : FewBr a.brs) (hfb : FewBr b.brs) (hla : a.roots.length ≤ 1000000) (hlb : b.roots.length ≤ 1000000) (hno : ¬ (RightT a ∧ RightT b)) :
    Calls Tryz.prog 25 #[.agg #[ra, ba], .agg #[rb, bb]] w (RetChg a b w) := by
  have KA := Lib.hid (fun W (hW : Grew w W) => fRight a.roots a.brs ra ba W (hE.mono hW) (har.mono hW) (hav.mono hW) hfa hla)
  have KB := Lib.hid (fun W (hW : Grew w W) => fRight b.roots b.brs rb bb W (hE.mono hW) (hbr.mono hW) (hbv.mono hW) hfb hlb)
  have HFin : RowKit.Hid (∀ w', Grew w w' → RetChg a b w (.returned (.tuple #[.slice none 0 0, .int .i64 1])) w') := fun w' hg => ⟨_, _, [], rfl, SlI.nil _, hg, fun h => absurd h hno, fun _ => ⟨rfl, rfl⟩⟩
  have HNO := Lib.hid hno
  clear hE har hav hbr hbv hfa hfb hla hlb hno
  go_enter Tryz.func25, Tryz.ntmps25
  go_wp2_with fail
  refine (KA.out _ (((Grew.refl w).alloc _).alloc _)).mono ?_
  rintro e w1 ⟨qa, rfl, hqa, g1⟩
  have HG1 := Lib.hid ((((Grew.refl w).alloc _).alloc _).trans g1)
  have b0 := new_cell g1 0 _ rfl
  have b1 := new_cell g1 1 _ rfl
  rw [size_allocB] at b0 b1
  dsimp only
  have HQA := Lib.hid hqa
  clear g1 hqa
  cases qa
  · go_wp2
    go_ret2
    exact HFin.out _ HG1.out
  · have HT := Lib.hid (HQA.out.1 rfl)
    clear HQA
    go_wp2_with fail
    refine (KB.out _ HG1.out).mono ?_
    rintro e w2 ⟨qb, rfl, hqb, g2⟩
    obtain rfl : qb = false := by
      cases qb
      · rfl
      · exact absurd ⟨HT.out, hqb.1 rfl⟩ HNO.out
    have HG2 := Lib.hid (HG1.out.trans g2)
    clear g2 hqb
    dsimp only
    go_wp2
    go_ret2
    exact HFin.out _ HG2.out
/-- Both trees are right. -/
theorem cell_new2 (W : World) (o : Obj) (cs : List Value) (t : TypeId) (j : Nat) (v : Value) (hj : cs[j]? = some v) : ((W.alloc o).alloc (.cells cs.toArray t)).cell? ⟨W.heap.size + 1, j, none⟩ = some v := by
  have := new_cell (w := W.alloc o) (Grew.refl _) j v hj (t := t)
  rw [size_allocB] at this
  exact this
theorem mapLater {w w' : World} {k e : TypeId} {b n : Nat} {D : DataW Unit} (h : w.ownsMap Tryz.prog k (plainElem Tryz.prog e) b n D) (g : Grew w w') : w'.ownsMap Tryz.prog k (plainElem Tryz.prog e) b n D := by
  obtain ⟨es, clock, hb, r⟩ := h
  exact ⟨es, clock, by rw [g.block b (Array.getElem?_eq_some_iff.1 hb).1]; exact hb, r⟩
theorem grewTurned {w0 w w' : World} {b : Nat} (h : Grew w0 w) (g : w.grownBy w' (some b)) (hb : w0.heap.size ≤ b) : Grew w0 w' := Below.grown h g h.size (fun k hk => by cases hk; exact hb)
theorem zeroI (u : World) : (zeroValue 3).run Tryz.prog u = .ok (.int .i64 0) u := by kernel_rfl
set_option maxHeartbeats 16000000 in
set_option maxRecDepth 100000 in
theorem rChangedYes (a b : Tr) (ra ba rb bb : Value) (w : World) (hE : Env w) (har : SlI w ra a.roots) (hav : SlBr w ba a.brs) (hbr : SlI w rb b.roots) (hbv : SlBr w bb b.brs) (hfa : FewBr a.brs) (hfb : FewBr b.brs) (hla : a.roots.length ≤ 1000000) (hlb : b.roots.length ≤ 1000000) (hRa : RightT a) (hRb : RightT b) :
    Calls Tryz.prog 25 #[.agg #[ra, ba], .agg #[rb, bb]] w (RetChg a b w) := by
  have hmm := @run_makeMap Tryz.prog
  have KA := Lib.hid (fun W (hW : Grew w W) => fRight a.roots a.brs ra ba W (hE.mono hW) (har.mono hW) (hav.mono hW) hfa hla)
  have KB := Lib.hid (fun W (hW : Grew w W) => fRight b.roots b.brs rb bb W (hE.mono hW) (hbr.mono hW) (hbv.mono hW) hfb hlb)
  have hSa := right_sound hRa
  have hSb := right_sound hRb
  obtain ⟨la, hsa, hlla, hoa⟩ := hav
  obtain ⟨lb, hsb, hllb, hob⟩ := hbv
  have hua := units_of hlla hoa
  have hub := units_of hllb hob
  have hca : ∀ c ∈ la, c.kv.oneCell' = true := fun c hc => by
    obtain ⟨i, hi, rfl⟩ := List.mem_iff_getElem.1 hc
    exact slI_one (hoa i hi (by omega)).2
  have hcb : ∀ c ∈ lb, c.kv.oneCell' = true := fun c hc => by
    obtain ⟨i, hi, rfl⟩ := List.mem_iff_getElem.1 hc
    exact slI_one (hob i hi (by omega)).2
  have hna : la.length ≤ 256 := by rw [hlla]; exact hSa.len
  have hnb : lb.length ≤ 256 := by rw [hllb]; exact hSb.len
  have hbu : (la ++ lb).map unitOf = bothU a b := by
    rw [List.map_append, hua, hub]
    rfl
  have hwf : ∀ u ∈ (la ++ lb).map unitOf, WfU u := fun u hu => by
    rw [hbu] at hu
    rcases List.mem_append.1 hu with h | h
    · exact wf_units hSa u h
    · exact wf_units hSb u h
  have HFin : RowKit.Hid (∀ (L : List Br), (∀ n, n ∈ L.map Br.id ↔ ∃ u, ((la ++ lb).map unitOf).count u = 1 ∧ u.id = n) → ChgIs a b (Lib.compact (sortI (L.map Br.id)))) := fun L hL => by
    obtain ⟨h1, h2⟩ := cmp_sort (L.map Br.id)
    refine chg_of_count hSa.asc hSb.asc h1 fun n => ?_
    rw [h2, hL, hbu]
  have HEnd : RowKit.Hid (∀ (v : Value) (l : List Int) (w' : World), SlI w' v l → Grew w w' → ChgIs a b l → RetChg a b w (.returned (.tuple #[v, .int .i64 0])) w') := fun v l w' hs hg hc => ⟨v, 0, l, rfl, hs, hg, fun _ => ⟨rfl, hc⟩, fun h => absurd ⟨hRa, hRb⟩ h⟩
  have KC := Lib.hid (fun (B : Nat) (W : World) (hW : Grew w W) h0 h1 => concatB la lb _ _ B W h0 h1 (hsa.mono hW) (hsb.mono hW) (by omega) (by omega) hca hcb)
  obtain ⟨Aa, ca, rfl, -, -, -⟩ := hsa.open_
  obtain ⟨Ab, cb, rfl, -, -, -⟩ := hsb.open_
  obtain ⟨Ra, da, rfl, -⟩ := SlI.open_ har
  obtain ⟨Rb, db, rfl, -⟩ := SlI.open_ hbr
  have HN : RowKit.Hid ((la ++ lb).length = la.length + lb.length) := List.length_append
  have HWF := Lib.hid hwf
  have h1cs : ∀ c ∈ la ++ lb, ∃ X n k, c.kv = .slice X n k := fun c hc => by
    rcases List.mem_append.1 hc with h | h
    · obtain ⟨i, hi, rfl⟩ := List.mem_iff_getElem.1 h
      obtain ⟨X, k, e, -⟩ := SlI.open_ (hoa i hi (by omega)).2
      exact ⟨X, _, k, e⟩
    · obtain ⟨i, hi, rfl⟩ := List.mem_iff_getElem.1 h
      obtain ⟨X, k, e, -⟩ := SlI.open_ (hob i hi (by omega)).2
      exact ⟨X, _, k, e⟩
  have H1C := Lib.hid (fun i (hi : i < (la ++ lb).length) => h1cs _ (List.getElem_mem hi))
  have HRA := Lib.hid hRa
  have HRB := Lib.hid hRb
  clear h1cs
  generalize hcs : la ++ lb = cs at KC HN HWF HFin H1C
  generalize la.length = na at KC HN hna KA ⊢
  generalize lb.length = nb at KC HN hnb KB ⊢
  clear hcs hsa hsb hlla hllb hoa hob hua hub hca hcb hbu hwf hSa hSb hE har hbr hfa hfb hla hlb hRa hRb
  obtain ⟨i0, hi, hz0, hz1, hz2⟩ := info_parts cinfoI
  go_enter Tryz.func25, Tryz.ntmps25
  go_wp2_with fail
  refine (KA.out _ (((Grew.refl w).alloc _).alloc _)).mono ?_
  rintro e w1 ⟨qa, rfl, hqa, g1⟩
  obtain rfl : qa = true := hqa.2 HRA.out
  have HG1 := Lib.hid ((((Grew.refl w).alloc _).alloc _).trans g1)
  have x0 := new_cell (w := w) (((Grew.refl _).alloc _).trans g1) 0 _ rfl
  have x1 := new_cell (w := w) (((Grew.refl _).alloc _).trans g1) 1 _ rfl
  have y0 := new_cell g1 0 _ rfl
  have y1 := new_cell g1 1 _ rfl
  rw [size_allocB] at y0 y1
  clear g1 hqa
  dsimp only
  go_wp2_with fail
  refine (KB.out _ HG1.out).mono ?_
  rintro e w2 ⟨qb, rfl, hqb, g2⟩
  obtain rfl : qb = true := hqb.2 HRB.out
  have HG2 := Lib.hid (HG1.out.trans g2)
  replace x1 := keep_cell g2 x1
  replace y1 := keep_cell g2 y1
  have x2 := keep_cell ((Grew.refl w2).alloc (.map #[] 0)) x1
  have y2 := keep_cell ((Grew.refl w2).alloc (.map #[] 0)) y1
  clear g2 hqb x0 y0 x1 y1 HRA HRB KA KB HG1
  dsimp only
  go_wp2_with fail
  have hB0 := cell_new2 w2 (.map #[] 0) [.slice Aa na ca, .slice Ab nb cb] 33 0 _ rfl
  have hB1 := cell_new2 w2 (.map #[] 0) [.slice Aa na ca, .slice Ab nb cb] 33 1 _ rfl
  have G4 : Grew w2 ((w2.alloc (.map #[] 0)).alloc (.cells [.slice Aa na ca, .slice Ab nb cb].toArray 33)) := ((Grew.refl w2).alloc _).alloc _
  refine (KC.out _ _ (HG2.out.trans G4) hB0 hB1).mono ?_
  rintro e w3 ⟨v3, rfl, o3, g3⟩
  have OM := Lib.hid (show w3.ownsMap Tryz.prog 51 (plainElem Tryz.prog 3) w2.heap.size 0 (.map [] : DataW Unit) from mapLater (World.ownsMap_made w2 _ _ _) (((Grew.refl _).alloc _).trans g3))
  have HG3 := Lib.hid (HG2.out.trans (G4.trans g3))
  have hrow : v3.ownBlock ≠ some w2.heap.size := fun h => by
    have := (o3.lt _ h).1
    rw [size_allocB, size_allocB] at this
    omega
  have HS3 := Lib.hid (show SlB w3 v3 cs from Rd.of_own o3)
  have HM2 := Lib.hid (show w.heap.size ≤ w2.heap.size from HG2.out.size)
  obtain ⟨A, c, rfl, hlc, hc, -⟩ := HS3.out.open_
  have HROW := Lib.hid hrow
  have hcl : cs.length ≤ 512 := by have := HN.out; omega
  unfold maxLen at hc
  generalize w2.heap.size = M at OM HROW HM2 ⊢
  clear g3 G4 hB0 hB1 o3 hrow x2 y2 HG2
  dsimp only
  go_wp2
  go_loopg [28] cs.length (fun gg s28 wr => ∃ kk : Nat, kk ≤ cs.length ∧ cs.length - kk ≤ gg ∧ s28 = .int .i64 kk ∧ Aside (∃ D : DataW Unit, wr.ownsMap Tryz.prog 51 (plainElem Tryz.prog 3) M kk D ∧ CntU D ((cs.map unitOf).take kk)) ∧ Aside (SlB wr (.slice A cs.length c) cs) ∧ Aside (Grew w wr))
  case atStart => exact ⟨0, by omega, by omega, rfl, (show Aside _ from ⟨_, OM.out, CntU.nil⟩), (show Aside _ from HS3.out), (show Aside _ from HG3.out)⟩
  case round =>
    obtain ⟨kk, hkk, hgk, rfl, OD, SB, BW⟩ := hrel
    obtain ⟨D, OW, CN⟩ := OD.out
    have HCN := Lib.hid CN
    by_cases hlt : kk < cs.length
    case neg =>
      have hltz : ¬ (kk : Int) < (cs.length : Int) := by omega
      obtain rfl : kk = cs.length := by omega
      have HCN2 : RowKit.Hid (CntU D (cs.map unitOf)) := by
        show CntU _ _
        have h := CN
        rw [List.take_of_length_le (by simp)] at h
        exact h
      have hsz := OW.size_le
      have HOW := Lib.hid OW
      clear CN HCN OD SB OW hltz
      generalize hU : cs.map unitOf = U at HWF HFin HCN2
      clear hU
      go_wp2_with (at_range; refine wpList_range_own _ rfl _ 76 rfl 51 3 keyedU Tryz.underlying76 _ M cs.length _ rfl HOW.out ?_; intro w0 hrg0 hg0 hs0)
      have HRG := Lib.hid hrg0
      have HG0 := Lib.hid (show Grew w w0 from Below.grown BW.out hg0 BW.out.size (fun k hk => by cases hk))
      have HS0 := Lib.hid (show w.heap.size ≤ wr.heap.size from BW.out.size)
      clear hrg0 hg0 hs0
      generalize wr.heap.size = r0 at HRG HS0
      go_frame
      go_loopg [9] (Maps.size D) (fun gg s9 wx => ∃ left cnt L, cnt ≤ gg ∧ Aside (wx.ranges Tryz.prog 51 (plainElem Tryz.prog 3) M r0 cs.length D left cnt) ∧ Aside (wx.ownsRow w.heap.size 3 1 s9 (L.map Br.id).length ((L.map Br.id).flatMap oneI)) ∧ Aside (CollU U left L) ∧ L.length + cnt ≤ Maps.size D ∧ Aside (Grew w wx))
      case atStart => exact ⟨_, _, [], Nat.le_refl _, HRG.out, (show Aside _ from World.ownsRow_nil _ _ _ _), (show Aside _ from CollU.start HCN2.out), by simp, HG0.out⟩
      case round =>
        obtain ⟨left, cnt, L, hcg, RG, OR, CO, hcs2, GX⟩ := hrel
        go_wp2_with (at_next; refine wpList_next_ranges _ rfl _ rfl 51 keyedU (plainElem Tryz.prog 3) (fun u : {u : Br // WfU u} => unitV u.1) (Value.int .i64) (fun key kl hk => by obtain ⟨u, hu, e, _⟩ := keyU_inv hk; exact ⟨⟨u, hu⟩, e⟩) (fun v y hv => by obtain ⟨c, rfl, _⟩ := plainElem_int_inv Tryz.underlying3 hv; exact ⟨c, rfl⟩) M r0 cs.length _ _ _ rfl RG.out ?_ ?_)
        · intro hc0 hl0
          have HD := Lib.hid (HFin.out L (CO.out.done hl0))
          have KS := Lib.hid (sort_keep (L.map Br.id) w _ _ wr OR.out GX.out (by rw [List.length_map]; omega))
          have HLn : RowKit.Hid (L.length ≤ 512) := by
            show L.length ≤ 512
            omega
          clear hl0
          go_wp2_with fail
          refine KS.out.mono ?_
          rintro e w4 ⟨rfl, o4, g4⟩
          have KM := Lib.hid (compact_own (sortI (L.map Br.id)) w _ _ w4 o4 g4 (by rw [sort_len, List.length_map]; have := HLn.out; omega) (comp_len _))
          clear o4 g4
          dsimp only
          go_wp2_with fail
          refine KM.out.mono ?_
          rintro e w5 ⟨v5, rfl, s5, g5⟩
          have HF5 := Lib.hid (HEnd.out _ _ _ s5 g5 HD.out)
          clear s5 g5
          dsimp only
          go_wp2
          go_ret2
          exact HF5.out
        · intro x hx c0 kl y1 y2 w2 cnt2 hkey hlk hv hat hrg2 hlt2 hg2 hs2 hen
          obtain rfl := keyU_kl hx hkey
          obtain ⟨c1, ec, ez, -⟩ := plainElem_int_inv Tryz.underlying3 hv
          obtain rfl : c0 = c1 := by injection ec
          obtain ⟨rfl, rfl⟩ := Prod.mk.inj ez
          have hcx : c0 = (U.count x : Int) := by
            have := hat (.lit (.int .i64 0))
            rw [HCN2.out.at_ x hx] at this
            injection this with this
            injection this with _ this
            exact this.symm
          have OR2 := Lib.hid (OR.out.kept hg2 (Or.inr (row_ne_iter OR.out RG.out).symm))
          have RG2 := Lib.hid hrg2
          have CO2 := Lib.hid (CO.out.step HWF.out hx)
          have GX2 := Lib.hid (grewTurned GX.out hg2 HS0.out)
          have hm : L.length + 1 ≤ 1000 := by omega
          have HML := Lib.hid (show (L.map Br.id).length = L.length from List.length_map _)
          subst hcx
          clear hs2 hg2 hrg2 hat hlk hv hkey ec ez OR RG CO GX
          unfold unitV at hen ⊢
          by_cases h1 : U.count x = 1
          · rw [h1] at hen CO2 ⊢
            rw [if_pos rfl] at CO2
            have hcell := cell_one_new (w2.alloc (.cells #[.int .i64 x.id, .int .i64 x.parent, .int .i64 x.level, .string x.title, .string x.mark] 51)) (.int .i64 x.id) 3
            rw [size_allocB] at hcell
            have HCell := Lib.hid hcell
            clear hcell h1 hx
            generalize hLM : L.map Br.id = LM at OR2 HML
            have HLM := Lib.hid hLM
            have hLL : LM.length + 1 ≤ 1000 := by rw [HML.out]; exact hm
            clear hLM
            go_wp2_with (at_builtin; refine wpList_append_own _ rfl _ _ 32 rfl w.heap.size 3 i0 (.int .i64 0) 1 8 Tryz.underlying32 hi hz0 hz1 hz2 rfl (by decide) _ _ _ rfl ((OR2.out.alloc _).alloc _) ⟨w2.heap.size + 1, 0, none⟩ 1 1 [.int .i64 x.id] rfl rfl HCell.out (by simp [Value.oneCell']) (by unfold maxLen; omega) (by omega) (by have := GX2.out.size; simp; omega) ?_; intro v' w3 hown' hg3 hnil3)
            have RG3 := Lib.hid (((RG2.out.alloc _).alloc _).kept hg3 (row_ne_map OR2.out RG2.out.owns) (row_ne_iter OR2.out RG2.out))
            have GX3 := Lib.hid (show Grew w w3 from Below.grown ((GX2.out.alloc _).alloc _) hg3 (by have := GX2.out.size; simp; omega) (fun k hk => (OR2.out.lt k hk).1))
            have hL2 : (L ++ [x]).map Br.id = LM ++ [x.id] := by
              rw [List.map_append, HLM.out]
              rfl
            have OR3 := Lib.hid (show w3.ownsRow w.heap.size 3 1 v' ((L ++ [x]).map Br.id).length (((L ++ [x]).map Br.id).flatMap oneI) from by
              rw [hL2, List.flatMap_append, List.length_append]
              exact hown')
            have hlt3 : (L ++ [x]).length + cnt2 ≤ Maps.size D := by
              rw [List.length_append]
              show L.length + 1 + cnt2 ≤ _
              omega
            clear hown' hg3 hnil3 hL2
            go_roundg cnt2
            case measure => omega
            case rel => exact ⟨_, cnt2, L ++ [x], Nat.le_refl _, RG3.out, OR3.out, CO2.out, hlt3, GX3.out⟩
          · have h2 : ((U.count x : Nat) : Int) ≠ 1 := by omega
            rw [if_neg h1] at CO2
            clear h1 hx
            go_wp2
            go_roundg cnt2
            case measure => omega
            case rel => exact ⟨_, cnt2, L, Nat.le_refl _, (show Aside _ from RG2.out.alloc _), (show Aside _ from OR2.out.alloc _), CO2.out, by omega, (show Aside _ from GX2.out.alloc _)⟩
    have hltz : (kk : Int) < (cs.length : Int) := by omega
    obtain ⟨A', c', he, -, -, hr⟩ := SlB.open_ SB.out
    obtain ⟨hA, -, -⟩ := Value.slice.inj he
    obtain ⟨b0, off, hA2, hb0, hcell⟩ := hr (by omega)
    obtain rfl := hA.trans hA2
    obtain ⟨c0, c1, c2, c3, c4, c5⟩ := hcell wr (Grew.refl _) kk hlt
    have hu := HWF.out (unitOf cs[kk]) (List.mem_map_of_mem (List.getElem_mem hlt))
    obtain ⟨KX, Kn, Kc, h1k⟩ := H1C.out kk hlt
    clear hA he hA2 hr hcell
    have hcnt : ((cs.map unitOf).take kk).count (unitOf cs[kk]) ≤ 512 := Nat.le_trans List.count_le_length (by rw [List.length_take, List.length_map]; omega)
    have htk : (cs.map unitOf).take (kk + 1) = (cs.map unitOf).take kk ++ [unitOf cs[kk]] := by
      rw [List.take_succ_eq_append_getElem (by simpa using hlt), List.getElem_map]
    have HSt : RowKit.Hid (CntU (D.put (kU (unitOf cs[kk])) (.lit (.int .i64 ((((cs.map unitOf).take kk).count (unitOf cs[kk]) : Nat) + 1 : Int)))) ((cs.map unitOf).take (kk + 1))) := by
      show CntU _ _
      rw [htk]
      exact CN.bump (fun v hv => HWF.out v (List.mem_of_mem_take hv)) hu
    have hkey := keyU _ hu
    obtain ⟨q, st, w6, hat, hwq, hl1, hme, hl2, hst⟩ := bump_map (t := 76) ((OW.alloc (.cells [.int .i64 cs[kk].id, .int .i64 cs[kk].parent, .int .i64 cs[kk].level, .string cs[kk].title, .string cs[kk].mark, cs[kk].kv].toArray 53)).drew) lawU Tryz.underlying76 Tryz.underlying3 zeroI (by unfold maxLen; omega) hkey
    have hq : q = (((cs.map unitOf).take kk).count (unitOf cs[kk]) : Nat) := by
      have := CN.at_ _ hu
      rw [hat] at this
      injection this with this
      injection this
    subst hq
    clear CN OD hat htk hwq hkey hu
    generalize ((cs.map unitOf).take kk).count (unitOf cs[kk]) = q at HSt hl1 hme hl2 hst hcnt
    obtain ⟨w7, hes, ow7, gr7⟩ := hst ((q : Int) + 1) (WalkArith.wf_i64 (n := (q : Int) + 1) (by omega))
    unfold unitV at hl1 hme hl2
    have hcl5 : RowKit.Hid (∀ (k : Lit) (d : DataW Unit), k = kU (unitOf cs[kk]) → True) := fun _ _ _ => trivial
    clear hst hcl5
    generalize kU (unitOf cs[kk]) = KU at HSt ow7
    dsimp only [unitOf] at hl1 hme hl2
    generalize cs[kk] = y at c0 c1 c2 c3 c4 c5 h1k hl1 hme hl2 hes ow7 gr7
    obtain ⟨y1, y2, y3, y4, y5, y6⟩ := y
    dsimp only at c0 c1 c2 c3 c4 c5 h1k hl1 hme hl2 hes ow7 gr7
    subst h1k
    have HO7 := Lib.hid ow7
    have HG7 := Lib.hid gr7
    have HSB7 := Lib.hid (show SlB w7 (.slice (some ⟨b0, off, none⟩) cs.length c) cs from rd_grown (Rd.mono SB.out ((Grew.refl wr).alloc _).drew) gr7 (fun b hb => fun e => HROW.out (by rw [hb, e])))
    have HGW7 := Lib.hid (show Grew w w7 from grewTurned (BW.out.alloc _).drew gr7 HM2.out)
    clear ow7 gr7 OW SB HG7 HCN
    go_wp2_with fail
    go_region
    go_wp2
    go_roundg (cs.length - (kk + 1))
    case measure => omega
    case rel => exact ⟨kk + 1, by omega, by omega, by go_num, (show Aside _ from ⟨_, HO7.out, HSt.out⟩), (show Aside _ from HSB7.out), (show Aside _ from HGW7.out)⟩
theorem rChanged (a b : Tr) (ra ba rb bb : Value) (w : World) (hE : Env w) (har : SlI w ra a.roots) (hav : SlBr w ba a.brs) (hbr : SlI w rb b.roots) (hbv : SlBr w bb b.brs) (hfa : FewBr a.brs) (hfb : FewBr b.brs) (hla : a.roots.length ≤ 1000000) (hlb : b.roots.length ≤ 1000000) :
    Calls Tryz.prog 25 #[.agg #[ra, ba], .agg #[rb, bb]] w (RetChg a b w) := by
  by_cases h : RightT a ∧ RightT b
  · exact rChangedYes a b ra ba rb bb w hE har hav hbr hbv hfa hfb hla hlb h.1 h.2
  · exact rChangedNo a b ra ba rb bb w hE har hav hbr hbv hfa hfb hla hlb h
end Go.Proofs.YtafncfomiolmgaaGreatDoor

/- What the laws of layer 21 share: the cells of their boxes, and the sizes of right trees. No condition. -/
namespace Go.Proofs.YtafncfomiolmgaaGreatDoor
open Go.RowKit

theorem law_grow {W W2 : World} {H : Nat} {r b v0 v1 v2 v3 v4 v5 v6 v7 v8 v9 v10 v11 : Value} (h : W.cell? ⟨H, 0, none⟩ = some (r) ∧ W.cell? ⟨H, 1, none⟩ = some (b) ∧ W.cell? ⟨H + 1, 0, none⟩ = some (v0) ∧ W.cell? ⟨H + 1, 1, none⟩ = some (v1) ∧ W.cell? ⟨H + 1, 2, none⟩ = some (v2) ∧ W.cell? ⟨H + 1, 3, none⟩ = some (v3) ∧ W.cell? ⟨H + 1, 4, none⟩ = some (v4) ∧ W.cell? ⟨H + 1, 5, none⟩ = some (v5) ∧ W.cell? ⟨H + 1, 6, none⟩ = some (v6) ∧ W.cell? ⟨H + 1, 7, none⟩ = some (v7) ∧ W.cell? ⟨H + 1, 8, none⟩ = some (v8) ∧ W.cell? ⟨H + 1, 9, none⟩ = some (v9) ∧ W.cell? ⟨H + 1, 10, none⟩ = some (v10) ∧ W.cell? ⟨H + 1, 11, none⟩ = some (v11)) (g : Grew W W2) : W2.cell? ⟨H, 0, none⟩ = some (r) ∧ W2.cell? ⟨H, 1, none⟩ = some (b) ∧ W2.cell? ⟨H + 1, 0, none⟩ = some (v0) ∧ W2.cell? ⟨H + 1, 1, none⟩ = some (v1) ∧ W2.cell? ⟨H + 1, 2, none⟩ = some (v2) ∧ W2.cell? ⟨H + 1, 3, none⟩ = some (v3) ∧ W2.cell? ⟨H + 1, 4, none⟩ = some (v4) ∧ W2.cell? ⟨H + 1, 5, none⟩ = some (v5) ∧ W2.cell? ⟨H + 1, 6, none⟩ = some (v6) ∧ W2.cell? ⟨H + 1, 7, none⟩ = some (v7) ∧ W2.cell? ⟨H + 1, 8, none⟩ = some (v8) ∧ W2.cell? ⟨H + 1, 9, none⟩ = some (v9) ∧ W2.cell? ⟨H + 1, 10, none⟩ = some (v10) ∧ W2.cell? ⟨H + 1, 11, none⟩ = some (v11) := by
  obtain ⟨r0, b0, h0, h1, h2, h3, h4, h5, h6, h7, h8, h9, h10, h11⟩ := h
  exact ⟨keep_cell g r0, keep_cell g b0, keep_cell g h0, keep_cell g h1, keep_cell g h2, keep_cell g h3, keep_cell g h4, keep_cell g h5, keep_cell g h6, keep_cell g h7, keep_cell g h8, keep_cell g h9, keep_cell g h10, keep_cell g h11⟩
theorem law_cells {w W : World} {r b : Value} (o : Opn) (g : Grew ((w.alloc (.cells [r, b].toArray 35)).alloc (.cells o.cells.toArray 25)) W) : W.cell? ⟨w.heap.size, 0, none⟩ = some (r) ∧ W.cell? ⟨w.heap.size, 1, none⟩ = some (b) ∧ W.cell? ⟨w.heap.size + 1, 0, none⟩ = some (.int .i64 o.id) ∧ W.cell? ⟨w.heap.size + 1, 1, none⟩ = some (.int .i64 o.day) ∧ W.cell? ⟨w.heap.size + 1, 2, none⟩ = some (.int .i64 o.kind) ∧ W.cell? ⟨w.heap.size + 1, 3, none⟩ = some (.int .i64 o.unit) ∧ W.cell? ⟨w.heap.size + 1, 4, none⟩ = some (.int .i64 o.parent) ∧ W.cell? ⟨w.heap.size + 1, 5, none⟩ = some (.int .i64 o.before) ∧ W.cell? ⟨w.heap.size + 1, 6, none⟩ = some (.int .i64 o.level) ∧ W.cell? ⟨w.heap.size + 1, 7, none⟩ = some (.string o.title) ∧ W.cell? ⟨w.heap.size + 1, 8, none⟩ = some (.string o.mark) ∧ W.cell? ⟨w.heap.size + 1, 9, none⟩ = some (.int .i64 o.office) ∧ W.cell? ⟨w.heap.size + 1, 10, none⟩ = some (.int .i64 o.acc) ∧ W.cell? ⟨w.heap.size + 1, 11, none⟩ = some (.int .i64 o.num) := by
  have h := opn_all o g
  rw [size_allocB] at h
  have g1 : Grew (w.alloc (.cells [r, b].toArray 35)) W := ((Grew.refl _).alloc _).trans g
  exact ⟨new_cell g1 0 _ rfl, new_cell g1 1 _ rfl, h⟩
theorem zt_facts {w : World} {X : Nat} (h : w.heap[X]? = some (.cells [.slice none 0 0, .slice none 0 0].toArray 35)) : w.cell? ⟨X, 0, none⟩ = some (.slice none 0 0) ∧ w.cell? ⟨X, 1, none⟩ = some (.slice none 0 0) ∧ w.frozen? ⟨X, 0, none⟩ = false ∧ w.frozen? ⟨X, 1, none⟩ = false := by
  simp [World.cell?, World.frozen?, h]
theorem chg_yes {a b : Tr} {W W2 : World} {e : Ending} (ha : RightT a) (hb : RightT b) (h : RetChg a b W e W2) : ∃ v l, e = .returned (.tuple #[v, .int .i64 0]) ∧ SlI W2 v l ∧ Grew W W2 ∧ ChgIs a b l := by
  obtain ⟨v, n, l, he, hs, hg, h1, -⟩ := h
  obtain ⟨rfl, hc⟩ := h1 ⟨ha, hb⟩
  exact ⟨v, l, he, hs, hg, hc⟩
theorem four_grow {W W2 : World} {A B C D : Addr} {x y z u : Value} (h : (W.cell? A = some x ∧ W.cell? B = some y) ∧ W.cell? C = some z ∧ W.cell? D = some u) (g : Grew W W2) : (W2.cell? A = some x ∧ W2.cell? B = some y) ∧ W2.cell? C = some z ∧ W2.cell? D = some u := ⟨⟨keep_cell g h.1.1, keep_cell g h.1.2⟩, keep_cell g h.2.1, keep_cell g h.2.2⟩
theorem sameL (l : List Int) (v u : Value) (w : World) (hv : SlI w v l) (hu : SlI w u l) : Calls Tryz.prog 27 #[v, u] w fun e w' => e = .returned (.bool true) ∧ Grew w w' := by
  have := equalI l l v u w hv hu
  rw [decide_eq_true rfl] at this
  exact this
theorem three_grow {W W2 : World} {A B C : Addr} {x y z : Value} (h : W.cell? A = some x ∧ W.cell? B = some y ∧ W.cell? C = some z) (g : Grew W W2) : W2.cell? A = some x ∧ W2.cell? B = some y ∧ W2.cell? C = some z := ⟨keep_cell g h.1, keep_cell g h.2.1, keep_cell g h.2.2⟩
theorem kids_few {l : List Br} {ks : List Int} {p : Int} (h : KidsAre l ks p) : ks.length ≤ l.length := by
  have h1 := List.Nodup.length_le_of_subset (l₂ := l.map Br.id) h.1 (fun x hx => by
    obtain ⟨b, hb, _, e⟩ := (h.2 x).1 hx
    exact List.mem_map.2 ⟨b, hb, e⟩)
  simpa using h1
theorem right_few {t : Tr} (h : RightT t) : FewBr t.brs ∧ t.roots.length ≤ 1000000 := by
  have hs := ((right_iff t).1 h).1
  have hl := hs.len
  refine ⟨⟨by omega, fun i hi => ?_⟩, ?_⟩
  · have := kids_few (hs.kids _ (List.getElem_mem hi))
    omega
  · have := kids_few hs.roots
    omega
theorem kidsR_len {t : Tr} (h : RightT t) {id : Int} {K : List Int} (hK : kidsR t id = (K, 0)) : K.length ≤ 1000000 := by
  unfold kidsR at hK
  rw [if_pos h] at hK
  split at hK
  · injection hK with hK _
    subst hK
    unfold childs
    split
    · exact (right_few h).2
    · split
      · simp
      · rename_i b hb
        obtain ⟨i, hi, e⟩ := List.mem_iff_getElem.1 (find_in hb).1
        rw [← e]
        exact (right_few h).1.2 i hi
  · injection hK with hK _
    rw [← hK]
    simp
end Go.Proofs.YtafncfomiolmgaaGreatDoor

/- RearrangeTogether and RearrangeLocal, plainly: what the program's answers are behind an operation that is applied. No condition. -/
namespace Go.Proofs.YtafncfomiolmgaaGreatDoor
open Go.RowKit

theorem applyR_parts {t : Tr} {o : Opn} (h : (applyR t o).2 = 0) : RightT t ∧ RightT (applyR t o).1 ∧ (applyR t o).1 = newT t o ∧ formedO o = true ∧ o.kind ≠ 6 ∧ faultO t o = 0 := by
  have hr := applyR_right h
  refine ⟨hr.1, hr.2, ?_⟩
  unfold applyR at h ⊢
  split at h
  · simp at h
  · rename_i e1
    rw [if_neg e1]
    simp only [not_or, Bool.not_eq_false] at e1
    split at h
    · rename_i e2
      exact absurd h e2
    · rename_i e2
      rw [if_neg e2]
      split at h
      · rename_i e3
        rw [if_pos e3]
        exact ⟨rfl, e1.2.1, e1.2.2, by simpa using e2⟩
      · simp at h
theorem top_there {l : List Br} {id : Int} (h : id = 0 ∨ ∃ b ∈ l, b.id = id) : topR l id = 0 := by
  unfold topR
  by_cases h0 : id = 0
  · rw [if_pos h0]
  · rw [if_neg h0]
    obtain ⟨b, hb, e⟩ := h.resolve_left h0
    unfold knownF
    have : (brFind l id).isSome = true := by
      cases hf : brFind l id with
      | none => exact absurd e ((find_none id).1 hf b hb)
      | some _ => rfl
    simp [this]
theorem kidsR_there {t : Tr} (h : RightT t) {id : Int} (hi : id = 0 ∨ ∃ b ∈ t.brs, b.id = id) : kidsR t id = (childs t id, 0) := by
  unfold kidsR
  rw [if_pos h, if_pos (top_there hi)]
theorem belowR_there {t : Tr} (h : RightT t) {id : Int} (hi : id = 0 ∨ ∃ b ∈ t.brs, b.id = id) : belowR t id = (belowT t id, 0) := by
  unfold belowR
  rw [if_pos h, if_pos (top_there hi)]
/-- Behind an operation each other unit of the tree has its children in their order. -/
theorem local_plain {t : Tr} {o : Opn} (h : (applyR t o).2 = 0) {b : Br} (hb : b ∈ t.brs) (hne : b.id ≠ o.unit) : ∃ K, kidsR (applyR t o).1 b.id = (K, 0) ∧ withoutF o.unit K = withoutF o.unit b.kids := by
  obtain ⟨hT, hU, e, hf, h6, h0⟩ := applyR_parts h
  have hs := right_sound hT
  have h1 := newT_rest hs hf h0 (.inr ⟨b, hb, rfl⟩) hne
  rw [e] at hU ⊢
  refine ⟨_, kidsR_there hU (.inr ?_), ?_⟩
  · have h2 := newT_find (t := t) (o := o) hne
    have hC := ((sound_parts t).1 hs).1
    have h3 : brFind (t.brs.map core) b.id = some (core b) := by
      rw [find_map core (fun _ => rfl), (find_iff hs.asc _ _).2 ⟨hb, rfl⟩]
      rfl
    rw [h3, find_map core (fun _ => rfl)] at h2
    cases hq : brFind (newT t o).brs b.id with
    | none => rw [hq] at h2; cases h2
    | some c => exact ⟨c, (find_in hq).1, (find_in hq).2⟩
  · rw [h1, childs_of hs.asc hb (unit_pos (hs.units b hb))]
/-- What changed is at most the operation's own unit. -/
theorem local_chg {t : Tr} {o : Opn} (h : (applyR t o).2 = 0) {l : List Int} (hl : ChgIs t (applyR t o).1 l) : l = [] ∨ l = [o.unit] := by
  obtain ⟨_, _, e, _⟩ := applyR_parts h
  refine chg_one hl fun n hn => ?_
  rw [e]
  exact newT_find hn
end Go.Proofs.YtafncfomiolmgaaGreatDoor

/- The closures of the law RearrangeLocal, walked. The condition: the list is short. -/
namespace Go.Proofs.YtafncfomiolmgaaGreatDoor
open Go.RowKit

theorem local11 (n : Int) (B : Nat) (x : Int) (W : World) (h0 : W.cell? ⟨B, 3, none⟩ = some (.int .i64 n)) :
    Calls Tryz.prog 33 (#[.int .i64 x] ++ #[.pointer (some ⟨B, 0, none⟩)]) W fun e w' => e = .returned (.bool (x == n)) ∧ Grew W w' := by
  have hB := World.block_lt_of_cell? W _ h0
  go_enter Tryz.func33, Tryz.ntmps33
  go_wp2
  go_ret
  exact ⟨rfl, Grew.refl W⟩
theorem enters_local11 : ∀ args w, (callFunc 33 args).run Tryz.prog w = .ok (.enter 33 args) w := enters_of Tryz.func33 (by kernel_rfl) rfl
set_option maxHeartbeats 4000000 in
theorem local1 (l : List Int) (n : Int) (B : Nat) (v : Value) (w : World) (hv : SlI w v l) (hl : l.length ≤ 1000000) (h0 : w.cell? ⟨B, 3, none⟩ = some (.int .i64 n)) :
    Calls Tryz.prog 30 #[v, .pointer (some ⟨B, 0, none⟩)] w fun e w' => ∃ v', e = .returned v' ∧ SlI w' v' (withoutF n l) ∧ Grew w w' := by
  have KC := Lib.hid (cloneI l v w hv (by omega))
  have HB := Lib.hid (World.block_lt_of_cell? w _ h0)
  have H0 := Lib.hid h0
  clear hv h0
  go_enter Tryz.func30, Tryz.ntmps30
  go_wp2_with fail
  refine KC.out.mono ?_
  rintro e w1 ⟨v1, rfl, ho1, g1⟩
  have HO := Lib.hid ho1
  have G1 := Lib.hid g1
  clear ho1 g1
  dsimp only
  go_wp2_with fail
  refine (deleteFuncG l (fun x => x == n) 33 #[.pointer (some ⟨B, 0, none⟩)] enters_local11 w.heap.size v1 w1 G1.out.size HO.out (fun W x hW _ => local11 n B x W (hW.cell (keep_cell G1.out H0.out) (fun e => by
    have h1 := (HO.out.lt B e.symm).1
    have h2 : B < w.heap.size := HB.out
    omega)))).mono ?_
  rintro e w2 ⟨v2, rfl, ho2, -, -, hgr⟩
  have HO2 := Lib.hid (show SlI w2 v2 (withoutF n l) from Rd.of_own ho2)
  have HG2 := Lib.hid (show Grew w w2 from Below.grown G1.out hgr G1.out.size (fun b hb => (HO.out.lt b hb).1))
  clear ho2 hgr
  dsimp only
  go_wp2
  go_ret
  exact ⟨_, rfl, HO2.out, HG2.out⟩
end Go.Proofs.YtafncfomiolmgaaGreatDoor
