/- Lemmas on what the functions of the program and of the library compute: N6, Cmp, PlainDf, InsB, ClB, ConB. The conditions stand at each. -/
import Derived.Test.YtjaknioojpgkiaaGreatDoorQ39
import Derived.Test.YtjaknioojpgkiaaGreatDoorQ26
import Derived.Test.YtjaknioojpgkiaaGreatDoorQ11
import Derived.Test.YtjaknioojpgkiaaGreatDoorQ3
import Derived.Test.YtjaknioojpgkiaaGreatDoorQ32
import Derived.Test.YtjaknioojpgkiaaGreatDoorQ7
import Derived.Sort.OwnSortedInts
import Derived.Test.YtjaknioojpgkiaaGreatDoorQ19
import Derived.Test.YtjaknioojpgkiaaGreatDoorQ22
import Derived.Test.YtjaknioojpgkiaaGreatDoorQ1
import Derived.Lib.LazyBuf
/- describe.wants and describe.reads, walked. The conditions: the library's own variables hold what they must; the lists are short. -/
namespace Go.Proofs.YtjaknioojpgkiaaGreatDoor
open Go.RowKit

theorem dWants (s : ByteArray) (w : World) : Calls Tryz.prog 70 #[.string s] w fun e w' => e = .returned (.int .i64 (lanI s)) ∧ Grew w w' := by
  unfold lanI
  by_cases h : s.size = 2
  · have hl : s.data.toList.length = 2 := by rw [← h]; cases s; rfl
    rw [← lang_trim _ hl]
    have hb : ((s.size : Int) != 2) = false := by simp; omega
    have hs : s.size ≤ 9223372036854775807 := by omega
    have ht := fun w => Tryz.strings_Trim s ⟨#[97, 98, 99, 100, 101, 102, 103, 104, 105, 106, 107, 108, 109, 110, 111, 112, 113, 114, 115, 116, 117, 118, 119, 120, 121, 122]⟩ w hs (by decide) ascii_az
    rw [azBA] at ht
    generalize Lib.trimS s.data.toList azL = T at ht ⊢
    have HT := Lib.hid ht
    clear ht hl h
    cases T with
    | nil =>
      rw [if_pos (by decide)]
      go_enter Tryz.func70, Tryz.ntmps70
      go_wp2_with (first | (go_at_call 123; refine (HT.out _).mono ?_; rintro e w1 ⟨rfl, hg⟩))
      go_ret
      exact ⟨rfl, hg⟩
    | cons a r =>
      rw [if_neg (by simp)]
      go_enter Tryz.func70, Tryz.ntmps70
      go_wp2_with (first | (go_at_call 123; refine (HT.out _).mono ?_; rintro e w1 ⟨rfl, hg⟩))
      go_ret
      exact ⟨rfl, hg⟩
  · have hl : s.data.toList.length ≠ 2 := by intro e; apply h; rw [← e]; cases s; rfl
    rw [lang_len _ hl]
    have hb : ((s.size : Int) != 2) = true := by simp; omega
    clear hl h
    go_enter Tryz.func70, Tryz.ntmps70
    go_wp2
    go_ret
    exact ⟨rfl, Grew.refl w⟩
/-- A value as if it were a unit's own. -/
def atU (u : Int) (x : Val) : Val := ⟨u, x.elem, x.lang, x.text⟩
def mixU (u : Int) (L : List Val) (k : Nat) : List Val := (L.take k).map (atU u) ++ L.drop k
theorem mixU_len (u : Int) (L : List Val) (k : Nat) (h : k ≤ L.length) : (mixU u L k).length = L.length := by
  unfold mixU
  rw [List.length_append, List.length_map, List.length_take, List.length_drop]
  omega
theorem mixU_step (u : Int) (L : List Val) (k : Nat) (h : k < L.length) : ((mixU u L k).flatMap Val.cells).set (k * 4) (.int .i64 u) = (mixU u L (k + 1)).flatMap Val.cells := by
  have hl := mixU_len u L k (by omega)
  have hk : (mixU u L k)[k]'(by omega) = L[k] := by
    unfold mixU
    rw [List.getElem_append_right (by simp; omega)]
    simp [Nat.min_eq_left (Nat.le_of_lt h)]
  have hset : (mixU u L k).set k (atU u L[k]) = mixU u L (k + 1) := by
    unfold mixU
    rw [List.set_append_right _ _ (by simp; omega), List.take_succ_eq_append_getElem h, List.map_append, List.append_assoc]
    congr 1
    have e0 : k - ((L.take k).map (atU u)).length = 0 := by simp; omega
    rw [e0]
    conv => lhs; rw [List.drop_eq_getElem_cons h]
    rfl
  rw [← hset]
  refine set_cellsV (i := k) (atU u L[k]) (by simp) (fun t ht => ?_) (fun t ht ht2 => ?_)
  · rw [List.getElem?_set_ne (by omega)]
  · by_cases h0 : t = 0
    · subst h0
      rw [Nat.add_zero, List.getElem?_set_self (by omega)]
      rfl
    · rw [List.getElem?_set_ne (by omega), flatMap_get Val.cells 4 (fun _ => rfl) (mixU u L k) k t (by omega) ht, hk]
      rcases t with _ | _ | _ | _ | t
      · exact absurd rfl h0
      · rfl
      · rfl
      · rfl
      · omega
set_option maxHeartbeats 4000000 in
set_option maxRecDepth 100000 in
theorem dReads (t : Tr) (ls : List ByteArray) (vs : List Val) (u : Int) (lang : ByteArray) (rv bv lv vv : Value) (w : World) (hE : Env w) (hr : SlI w rv t.roots) (hv : SlBr w bv t.brs) (hf : FewBr t.brs) (hrl : t.roots.length ≤ 1000000) (hl : SlS w lv ls) (hvv : SlV w vv vs) :
    Calls Tryz.prog 74 #[.agg #[rv, bv], lv, vv, .int .i64 u, .string lang] w fun e w' => ∃ v, e = .returned (.tuple #[v, .bool ((allR t ls vs u lang).2 == 0)]) ∧ SlV w' v ((allR t ls vs u lang).1.map (atU u)) ∧ Grew w w' := by
  have kA := fun W (hW : Grew w W) => iAllX t ls vs u lang rv bv lv vv W (hE.mono hW) (hr.mono hW) (hv.mono hW) hf hrl (hl.mono hW) (hvv.mono hW)
  unfold RetVL at kA
  generalize allR t ls vs u lang = R at kA ⊢
  obtain ⟨L, re⟩ := R
  dsimp only at kA ⊢
  have KA := Lib.hid kA
  obtain ⟨Ar0, cr0, rfl, -⟩ := hr.open_
  obtain ⟨Ab0, cb0, rfl, -⟩ := hv.open_
  clear kA hE hr hv hf hrl hl hvv
  have GA := Lib.hid ((Grew.refl w).alloc (.cells #[.slice Ar0 t.roots.length cr0, .slice Ab0 t.brs.length cb0] 25))
  go_enter Tryz.func74, Tryz.ntmps74
  go_wp2_with fail
  generalize w.alloc (.cells #[.slice Ar0 t.roots.length cr0, .slice Ab0 t.brs.length cb0] 25) = WA at GA ⊢
  refine (KA.out _ GA.out).mono ?_
  rintro e w1 ⟨v1, rfl, ho, g1⟩
  obtain ⟨A1, c1, rfl⟩ := own_slice ho
  have HO := Lib.hid ho
  have G1 := Lib.hid (GA.out.trans g1)
  have HLO := Lib.hid GA.out.size
  have hlm : L.length ≤ maxLen := by
    obtain ⟨A2, c2, hv2, hlc2, hc2, -⟩ := (show SlV w1 _ L from Rd.of_own ho).open_
    omega
  unfold maxLen at hlm
  clear ho g1 KA
  dsimp only
  go_wp2_with fail
  go_loopg [26] L.length (fun gg s26 wr => ∃ k : Nat, k ≤ L.length ∧ L.length - k ≤ gg ∧ s26 = .int .i64 (k : Int) ∧ Aside (wr.ownsRow WA.heap.size 29 4 (.slice A1 L.length c1) L.length ((mixU u L k).flatMap Val.cells)) ∧ Aside (Grew w wr))
  case atStart => exact ⟨0, by omega, by omega, rfl, (show Aside _ from (show World.ownsRow _ _ _ _ _ _ _ by simpa [mixU] using HO.out)), (show Aside _ from G1.out)⟩
  case round =>
    obtain ⟨k, hk, hgk, rfl, OW, GW⟩ := hrel
    by_cases hlt : k < L.length
    · have hltz : (k : Int) < (L.length : Int) := by omega
      have h0z : (0 : Int) ≤ (k : Int) := by omega
      obtain ⟨g, cap, hve, hbg, hglt, hcap⟩ := own_form OW.out (by omega)
      injection hve with e1 _ e2
      subst e1 e2
      obtain ⟨u0, _, hu0⟩ := own_cell OW.out (k * 4 + 0) (by omega)
      have hf0 := OW.out.frozenAt (k * 4 + 0)
      simp only [Nat.add_zero] at hu0 hf0
      obtain ⟨hst, hgr⟩ := OW.out.stored (k * 4) (.int .i64 u)
      rw [mixU_step u L k hlt] at hst
      have HST := Lib.hid hst
      have HGN := Lib.hid (show Grew w _ from Below.grown GW.out hgr GW.out.size (fun j e => by injection e; have := HLO.out; omega))
      clear hst hgr OW
      go_wp2
      go_roundg (L.length - (k + 1))
      case measure => omega
      case rel => exact ⟨k + 1, by omega, by omega, by go_num, (show Aside _ from HST.out), (show Aside _ from HGN.out)⟩
    · have hltz : ¬ (k : Int) < (L.length : Int) := by omega
      obtain rfl : k = L.length := by omega
      have HEND := Lib.hid (show SlV wr (.slice A1 L.length c1) (L.map (atU u)) from by
        have := Rd.of_own OW.out
        show Rd _ _ _ _
        simpa [mixU] using this)
      clear OW
      go_wp2
      go_ret2
      exact ⟨_, rfl, HEND.out, GW.out⟩
end Go.Proofs.YtjaknioojpgkiaaGreatDoor

/- slices.Sort and slices.Compact behind it: a list that ascends and has the same numbers. No condition but the sizes that a slice can have. -/
namespace Go.Proofs.YtjaknioojpgkiaaGreatDoor
open Go.RowKit

theorem mem_cmpUpTo (d : Array Int) (x : Int) : ∀ m, x ∈ Lib.compactUpTo d m ↔ ∃ j, j < m ∧ d[j]! = x
  | 0 => by simp [Lib.compactUpTo]
  | m + 1 => by
    rw [Lib.compactUpTo_succ, List.mem_append, mem_cmpUpTo d x m]
    constructor
    · rintro (⟨j, hj, e⟩ | h2)
      · exact ⟨j, by omega, e⟩
      · cases hk : Lib.keeps d m
        · rw [hk] at h2; simp at h2
        · rw [hk, if_pos rfl, List.mem_singleton] at h2; exact ⟨m, by omega, h2.symm⟩
    · rintro ⟨j, hj, e⟩
      by_cases hjm : j < m
      · exact .inl ⟨j, hjm, e⟩
      · obtain rfl : j = m := by omega
        cases hk : Lib.keeps d j
        · unfold Lib.keeps at hk
          rw [decide_eq_false_iff_not, not_or, Decidable.not_not] at hk
          exact .inl ⟨j - 1, by omega, by rw [← hk.2, e]⟩
        · exact .inr (by rw [if_pos rfl, e]; exact List.mem_singleton.2 rfl)
theorem mem_cmp (l : List Int) (x : Int) : x ∈ Lib.compact l ↔ x ∈ l := by
  unfold Lib.compact
  rw [mem_cmpUpTo, List.mem_iff_getElem]
  constructor
  · rintro ⟨j, hj, e⟩
    exact ⟨j, hj, by rw [← e, getElem!_pos l.toArray j (by simpa using hj)]; simp⟩
  · rintro ⟨j, hj, e⟩
    exact ⟨j, hj, by rw [← e, getElem!_pos l.toArray j (by simpa using hj)]; simp⟩
theorem cmp_asc (d : Array Int) (hd : ∀ i j, i < j → j < d.size → d[i]! ≤ d[j]!) : ∀ m, m ≤ d.size → Asc (Lib.compactUpTo d m) ∧ ∀ x ∈ Lib.compactUpTo d m, 0 < m ∧ x ≤ d[m - 1]!
  | 0, _ => ⟨by simp [Lib.compactUpTo, Asc], fun x hx => by simp [Lib.compactUpTo] at hx⟩
  | m + 1, h => by
    obtain ⟨h1, h2⟩ := cmp_asc d hd m (by omega)
    have hle : ∀ x ∈ Lib.compactUpTo d m, x ≤ d[m]! := fun x hx => by
      obtain ⟨h0, hx2⟩ := h2 x hx
      exact Int.le_trans hx2 (hd (m - 1) m (by omega) (by omega))
    rw [Lib.compactUpTo_succ]
    cases hk : Lib.keeps d m
    · refine ⟨by simpa using h1, fun x hx => ⟨by omega, ?_⟩⟩
      exact hle x (by simpa using hx)
    · refine ⟨?_, fun x hx => ⟨by omega, ?_⟩⟩
      · unfold Asc
        rw [if_pos rfl, List.pairwise_append]
        refine ⟨h1, by simp, fun x hx y hy => ?_⟩
        rw [List.mem_singleton] at hy
        subst hy
        obtain ⟨h0, hx2⟩ := h2 x hx
        have hne : d[m]! ≠ d[m - 1]! := by
          unfold Lib.keeps at hk
          have := of_decide_eq_true hk
          rcases this with h | h
          · omega
          · exact h
        have h3 := hd (m - 1) m (by omega) (by omega)
        omega
      · rw [if_pos rfl] at hx
        rcases List.mem_append.1 hx with hx | hx
        · exact hle x hx
        · rw [List.mem_singleton] at hx
          rw [hx]
          exact Int.le_refl _
theorem cmp_sorted {l : List Int} (h : l.Pairwise (· ≤ ·)) : Asc (Lib.compact l) := by
  unfold Lib.compact
  refine (cmp_asc l.toArray (fun i j hij hj => ?_) l.length (by simp)).1
  have hj' : j < l.length := by simpa using hj
  rw [getElem!_pos l.toArray i (by simp; omega), getElem!_pos l.toArray j hj]
  simp only [List.getElem_toArray]
  exact List.pairwise_iff_getElem.1 h i j (by omega) hj' hij
theorem sortI_sorted (l : List Int) : (sortI l).Pairwise (· ≤ ·) := by
  have := List.pairwise_mergeSort (le := fun x y : Int => decide (x ≤ y)) (fun a b c h1 h2 => by simp at *; omega) (fun a b => by simp; omega) l
  refine List.Pairwise.imp ?_ this
  intro a b h
  simpa using h
theorem cmp_sort (l : List Int) : Asc (Lib.compact (sortI l)) ∧ ∀ x, x ∈ Lib.compact (sortI l) ↔ x ∈ l :=
  ⟨cmp_sorted (sortI_sorted l), fun x => by rw [mem_cmp]; exact List.mem_mergeSort⟩
theorem sort_len (l : List Int) : (sortI l).length = l.length := (List.mergeSort_perm l _).length_eq
/-- slices.Sort on a row of the call's own: it stays the call's own. -/
theorem sort_keep (l : List Int) (w0 : World) (e : TypeId) (v : Value) (w : World) (hown : w.ownsRow w0.heap.size e 1 v l.length (l.flatMap oneI)) (hg : Grew w0 w) (hl : l.length ≤ 1000000) :
    Calls Tryz.prog 72 #[v] w fun en w' => en = .returned (.tuple #[]) ∧ w'.ownsRow w0.heap.size e 1 v (sortI l).length ((sortI l).flatMap oneI) ∧ Grew w0 w' := by
  rcases Nat.eq_zero_or_pos l.length with h0 | h0
  · obtain rfl : l = [] := List.eq_nil_of_length_eq_zero h0
    have hv : ∃ A c, v = .slice A 0 c := by
      rcases hown.2 with ⟨rfl, _⟩ | ⟨g, cap, cur, rfl, _⟩
      · exact ⟨_, _, rfl⟩
      · exact ⟨_, _, rfl⟩
    obtain ⟨A, c, rfl⟩ := hv
    refine (Tryz.slices_Sort_int_none A c w).mono ?_
    rintro en w' ⟨rfl, rfl⟩
    refine ⟨rfl, ?_, hg⟩
    rw [show sortI [] = [] by simp [sortI]]
    exact hown
  · have hH0 := hown
    rcases hown.2 with ⟨_, hz⟩ | ⟨g, cap, cur, rfl, hbg, hh, h1, h2, h3, h4⟩
    · omega
    have hlt : g < w.heap.size := (Array.getElem?_eq_some_iff.1 hh).1
    have hH := holdsI_of_own hH0
    refine (Tryz.slices_Sort_int g 0 cap l w hH hlt (by omega)).mono ?_
    rintro en w' ⟨rfl, n, os, rfl⟩
    have hl2 : (sortI l).length = l.length := (List.mergeSort_perm l _).length_eq
    refine ⟨rfl, ?_, grew_sortedI hbg hg _ _ _⟩
    rw [flat_int, hl2]
    exact ownsRow_sortedI hl2 hbg hh h1 h2 h3
end Go.Proofs.YtjaknioojpgkiaaGreatDoor

/- Which units read differently, plainly; in the normal form none does. No condition. -/
namespace Go.Proofs.YtjaknioojpgkiaaGreatDoor
open Go.RowKit

/-- The numbers of the units of two trees, each once, in order. -/
def idsF (t u : Tr) : List Int := Lib.compact (sortI ((t.brs ++ u.brs).map Br.id))
noncomputable def difB (t u : Tr) (ls : List ByteArray) (bs es : List Val) (wt : ByteArray) (id : Int) : Bool :=
  (((allR t ls bs id wt).2 == 0) != ((allR u ls es id wt).2 == 0)) || !decide ((allR t ls bs id wt).1.map (atU id) = (allR u ls es id wt).1.map (atU id))
noncomputable def difR (t u : Tr) (ls : List ByteArray) (bs es : List Val) (wt : ByteArray) : List Int × Int :=
  if orF [ofI t ls bs, ofI u ls es, lanI wt] = 0 then ((idsF t u).filter (difB t u ls bs es wt), 0) else ([], orF [ofI t ls bs, ofI u ls es, lanI wt])
theorem ids_mem {t u : Tr} {x : Int} : x ∈ idsF t u ↔ (∃ b ∈ t.brs, b.id = x) ∨ ∃ b ∈ u.brs, b.id = x := by
  unfold idsF
  rw [(cmp_sort _).2, List.map_append, List.mem_append, List.mem_map, List.mem_map]
theorem ids_ord (t u : Tr) : Asc (idsF t u) := (cmp_sort _).1
theorem read_at (id : Int) (L M : List Val) : L.map (atU id) = M.map (atU id) ↔ L.map readT = M.map readT := by
  have h1 : ∀ x : Val, readT (atU id x) = readT x := fun _ => rfl
  have h2 : ∀ x : Val, atU id x = ⟨id, (readT x).1, (readT x).2.1, (readT x).2.2⟩ := fun _ => rfl
  constructor
  · intro h
    have := congrArg (List.map readT) h
    simpa [List.map_map, Function.comp_def, h1] using this
  · intro h
    have := congrArg (List.map fun p : Int × ByteArray × ByteArray => (⟨id, p.1, p.2.1, p.2.2⟩ : Val)) h
    simpa [List.map_map, Function.comp_def, ← h2] using this
end Go.Proofs.YtjaknioojpgkiaaGreatDoor

/- slices.Insert of one branch, on a row of the call's own, with a word on all other blocks. No condition but the sizes that a slice can have. -/
namespace Go.Proofs.YtjaknioojpgkiaaGreatDoor
open Go.RowKit

theorem cinfoB : (Tryz.prog.info? 56).map (fun i => (i.zero, i.size, i.bytes)) = some (some (.agg #[.int .i64 0, .int .i64 0, .int .i64 0, .string ⟨#[]⟩, .string ⟨#[]⟩, .slice none 0 0]), 6, 80) := by kernel_rfl
theorem one_cellsB (l : List BrC) (h : ∀ c ∈ l, c.kv.oneCell' = true) : ∀ u ∈ l.flatMap BrC.cells, u.oneCell' = true := by
  intro u hu
  rw [List.mem_flatMap] at hu
  obtain ⟨x, hx0, hx⟩ := hu
  simp [BrC.cells] at hx
  rcases hx with rfl | rfl | rfl | rfl | rfl | rfl
  all_goals first | rfl | exact h x hx0
end Go.Proofs.YtjaknioojpgkiaaGreatDoor

/- slices.Clone at branches. No condition but the sizes that a slice can have. -/
namespace Go.Proofs.YtjaknioojpgkiaaGreatDoor
open Go.RowKit

theorem slI_one {w : World} {v : Value} {l : List Int} (h : SlI w v l) : v.oneCell' = true := by
  obtain ⟨A, c, rfl, -⟩ := SlI.open_ h
  rfl
end Go.Proofs.YtjaknioojpgkiaaGreatDoor

/- slices.Grow of nothing and slices.Concat of two lists, at branches. No condition but the sizes that a slice can have. -/
namespace Go.Proofs.YtjaknioojpgkiaaGreatDoor
open Go.RowKit

theorem zerosG (w : World) (n : Nat) (h0 : 0 < n) (hn : n ≤ 1000000) :
    ∃ (G : Nat) (Z : List Value) (w1 : World), (∀ ty, (Builtin.append_ #[23, 3] ty #[.slice none 0 0, .int .i64 (n : Int)]).run Tryz.prog w = .ok (.slice (some ⟨w.heap.size, 0, none⟩) n G) w1) ∧
      n ≤ G ∧ G ≤ maxLen ∧ w1.heap[w.heap.size]? = some (.cells Z.toArray 56 (0, 0)) ∧ Z.length = G * 6 ∧ Grew w w1 := by
  obtain ⟨i0, hi0, hz0, hz1, hz2⟩ := info_parts cinfoB
  have hold : (Builtin.firstCells i0.size 0 (.slice none 0 0)).run Tryz.prog w.drew = .ok ([] : List Value).toArray w.drew := by
    simp [Builtin.firstCells]
  have h := fun ty => Lib.run_append_grow_zeros w 23 3 ty 56 i0 _ .i64 .i64 Tryz.underlying23 Tryz.underlying3 hi0 hz0 none 0 0 [] hold n h0 (by omega) (by omega) (by omega) (by rw [hz2]; omega) (by rw [hz2, Nat.zero_add]; exact growslice_fits h0 (by omega))
  simp only [Nat.zero_add] at h
  obtain ⟨ZC, hZC⟩ : ∃ ZC, ZC = (Value.agg #[.int .i64 0, .int .i64 0, .int .i64 0, .string ⟨#[]⟩, .string ⟨#[]⟩, .slice none 0 0]).cells := ⟨_, rfl⟩
  have hZs : ZC.size = 6 := by rw [hZC]; rfl
  rw [← hZC] at h
  refine ⟨_, (Builtin.zeroCells ZC n ++ Builtin.zeroCells ZC (grownCap w n 0 56 - n)).toList, _, h, grownCap_ge w _ _ _, grownCap_le_maxLen w n 0 _ (by unfold maxLen; omega), ?_, ?_, (Grew.refl w).drew.alloc _⟩
  · have := heap_alloc_last w.drew (.cells (([] : List Value).toArray ++ Builtin.zeroCells ZC n ++ Builtin.zeroCells ZC (grownCap w n 0 56 - n)) 56 (0, 0))
    rw [show ((Builtin.zeroCells ZC n ++ Builtin.zeroCells ZC (grownCap w n 0 56 - n)).toList).toArray = ([] : List Value).toArray ++ Builtin.zeroCells ZC n ++ Builtin.zeroCells ZC (grownCap w n 0 56 - n) by simp]
    exact this
  · have h9 := grownCap_ge w n 0 56
    simp only [Builtin.zeroCells, hZs, Array.toList_append, List.length_append, Array.length_toList, Array.size_map, Array.size_range]
    rw [← Nat.add_mul]
    generalize grownCap w n 0 56 = X at h9 ⊢
    rw [show n + (X - n) = X by omega]
set_option maxHeartbeats 2000000 in
/-- slices.Grow(nil, n). -/
theorem growNil (n : Nat) (w : World) (hn : n ≤ 1000000) :
    Calls Tryz.prog 124 #[.slice none 0 0, .int .i64 n] w fun e w' => ∃ v, e = .returned v ∧ w'.ownsRow w.heap.size 56 6 v 0 [] ∧ Grew w w' := by
  by_cases h0 : n = 0
  · subst h0
    go_enter Tryz.func124, Tryz.ntmps124
    go_wp2
    go_ret
    exact ⟨_, rfl, World.ownsRow_nil _ _ _ _, Grew.refl w⟩
  · obtain ⟨G, Z, w1, hrun, hG1, hG2, hh, hZ, hg⟩ := zerosG w n (by omega) hn
    unfold maxLen at hG2
    have h1 : ¬ ((n : Int) < 0) := by omega
    have h2 : (0 : Int) < (n : Int) := by omega
    have h3 : 0 < n := by omega
    have HR := Lib.hid (show w1.ownsRow w.heap.size 56 6 (.slice (some ⟨w.heap.size, 0, none⟩) 0 G) 0 [] from ⟨rfl, .inr ⟨w.heap.size, G, Z.toArray, rfl, Nat.le_refl _, hh, Nat.zero_le _, by unfold maxLen; omega, by simpa using hZ, by simp⟩⟩)
    have HG := Lib.hid hg
    clear hh hZ hg
    go_enter Tryz.func124, Tryz.ntmps124
    go_wp2_with (at_builtin; refine Lib.wpList_append_run _ rfl _ _ _ _ rfl _ _ rfl rfl _ _ (hrun _) ?_)
    go_ret
    exact ⟨_, rfl, HR.out, HG.out⟩
set_option maxHeartbeats 4000000 in
set_option maxRecDepth 100000 in
/-- slices.Concat of two lists of branches. -/
theorem concatB (la lb : List BrC) (va vb : Value) (B : Nat) (w : World) (h0 : w.cell? ⟨B, 0, none⟩ = some va) (h1 : w.cell? ⟨B, 1, none⟩ = some vb) (ha : SlB w va la) (hb : SlB w vb lb) (hla : la.length ≤ 1000) (hlb : lb.length ≤ 1000) (hca : ∀ c ∈ la, c.kv.oneCell' = true) (hcb : ∀ c ∈ lb, c.kv.oneCell' = true) :
    Calls Tryz.prog 71 #[.slice (some ⟨B, 0, none⟩) 2 2] w fun e w' => ∃ v, e = .returned v ∧ w'.ownsRow w.heap.size 56 6 v (la.length + lb.length) ((la ++ lb).flatMap BrC.cells) ∧ Grew w w' := by
  obtain ⟨Aa, na, ca, rfl, hal, han, hac, har⟩ := ha
  obtain ⟨Ab, nb, cb, rfl, hbl, hbn, hbc, hbr⟩ := hb
  have hfa := flatMap_len BrC.cells 6 (fun _ => rfl) la
  have hfb := flatMap_len BrC.cells 6 (fun _ => rfl) lb
  obtain rfl : na = la.length := by omega
  obtain rfl : nb = lb.length := by omega
  have HA := Lib.hid (show Rd w 6 (.slice Aa la.length ca) (la.flatMap BrC.cells) from ⟨Aa, _, ca, rfl, hal, han, hac, har⟩)
  have HB := Lib.hid (show Rd w 6 (.slice Ab lb.length cb) (lb.flatMap BrC.cells) from ⟨Ab, _, cb, rfl, hbl, hbn, hbc, hbr⟩)
  have H1A := Lib.hid (one_cellsB la hca)
  have H1B := Lib.hid (one_cellsB lb hcb)
  have HFA := Lib.hid hfa
  have HFB := Lib.hid hfb
  unfold maxLen at hac hbc
  obtain ⟨i0, hi, hz0, hz1, hz2⟩ := info_parts cinfoB
  clear hal har hbl hbr hfa hfb hca hcb
  rw [List.flatMap_append]
  generalize la.flatMap BrC.cells = xa at HA H1A HFA ⊢
  generalize lb.flatMap BrC.cells = xb at HB H1B HFB ⊢
  generalize la.length = na at hla han hac HA HFA h0 ⊢
  generalize lb.length = nb at hlb hbn hbc HB HFB h1 ⊢
  have kG := growNil (na + nb) w (by omega)
  rw [show ((na + nb : Nat) : Int) = (na : Int) + (nb : Int) by omega] at kG
  have KG := Lib.hid kG
  clear kG
  have H01 := Lib.hid (fun (W : World) (g : Grew w W) => (⟨(g.cell (World.block_lt_of_cell? _ _ h0)).trans h0, (g.cell (World.block_lt_of_cell? _ _ h1)).trans h1⟩ : W.cell? ⟨B, 0, none⟩ = some (.slice Aa na ca) ∧ W.cell? ⟨B, 1, none⟩ = some (.slice Ab nb cb)))
  have hs1 : ¬ ((na : Int) < 0) := by omega
  have hs2 : ¬ ((na : Int) + (nb : Int) < 0) := by omega
  go_enter Tryz.func71, Tryz.ntmps71
  go_wp2
  refine wp_loop_rounds 3 ?_
  rw [rounds_succ]
  go_wp2
  rw [rounds_succ]
  go_wp2
  rw [rounds_succ]
  go_wp2_with fail
  refine KG.out.mono ?_
  rintro e w1 ⟨v1, rfl, o1, g1⟩
  obtain ⟨c0, c1⟩ := H01.out w1 g1
  have HO1 := Lib.hid o1
  have HG1 := Lib.hid g1
  clear o1 g1
  dsimp only
  go_wp2
  refine wp_loop_rounds 3 ?_
  rw [rounds_succ]
  go_wp2_with (first | (at_builtin; refine appR rfl _ _ 23 rfl w 56 i0 (.agg #[.int .i64 0, .int .i64 0, .int .i64 0, .string ⟨#[]⟩, .string ⟨#[]⟩, .slice none 0 0]) 6 80 Tryz.underlying23 hi hz0 hz1 hz2 rfl (by omega) v1 0 [] (by rfl) _ HO1.out HG1.out (.slice Aa na ca) na xa (by rfl) (HA.out.mono HG1.out) HFA.out H1A.out (by unfold maxLen; omega) (by omega) ?_; intro v2 w2 o2 g2 k2))
  obtain ⟨d0, d1⟩ := H01.out w2 g2
  have HO2 := Lib.hid o2
  have HG2 := Lib.hid g2
  clear o2 g2 k2 c0 c1
  rw [rounds_succ]
  go_wp2_with (first | (at_builtin; refine appR rfl _ _ 23 rfl w 56 i0 (.agg #[.int .i64 0, .int .i64 0, .int .i64 0, .string ⟨#[]⟩, .string ⟨#[]⟩, .slice none 0 0]) 6 80 Tryz.underlying23 hi hz0 hz1 hz2 rfl (by omega) v2 (0 + na) ([] ++ xa) (by rfl) _ HO2.out HG2.out (.slice Ab nb cb) nb xb (by rfl) (HB.out.mono HG2.out) HFB.out H1B.out (by unfold maxLen; omega) (by omega) ?_; intro v3 w3 o3 g3 k3))
  have HO3 := Lib.hid o3
  have HG3 := Lib.hid g3
  clear o3 g3 k3
  rw [rounds_succ]
  go_wp2
  go_ret
  refine ⟨_, rfl, ?_, HG3.out⟩
  have h3 := HO3.out
  rw [Nat.zero_add, List.nil_append] at h3
  exact h3
end Go.Proofs.YtjaknioojpgkiaaGreatDoor
