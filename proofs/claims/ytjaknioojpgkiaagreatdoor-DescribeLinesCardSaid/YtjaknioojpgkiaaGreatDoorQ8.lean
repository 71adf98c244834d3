/- Lemmas on what the functions of the program and of the library compute: PlainB, E4, Sl1, PlainC. The conditions stand at each. -/
import Derived.Lib.SlicesCompact
import Derived.Test.YtjaknioojpgkiaaGreatDoorQ7
import Derived.Test.YtjaknioojpgkiaaGreatDoorProg
import Derived.Test.YtjaknioojpgkiaaGreatDoorQ1
import Derived.Lib.LazyBuf
import Derived.Sort.Defs
/- Plain facts on sorted lists without runs: no program in sight. No condition. -/
namespace Go.Proofs.YtjaknioojpgkiaaGreatDoor
open Go.Lib

abbrev Str := List UInt8
theorem le_tr (a b c : Str) (h1 : decide (a ≤ b) = true) (h2 : decide (b ≤ c) = true) : decide (a ≤ c) = true := by
  simp only [decide_eq_true_iff] at *
  exact List.le_trans h1 h2
theorem le_to (a b : Str) : (decide (a ≤ b) || decide (b ≤ a)) = true := by
  simp only [Bool.or_eq_true, decide_eq_true_iff]
  exact List.le_total a b
def sortS (l : List Str) : List Str := l.mergeSort fun x y => decide (x ≤ y)
theorem sortS_perm (l : List Str) : (sortS l).Perm l := List.mergeSort_perm l _
theorem sortS_sorted (l : List Str) : (sortS l).Pairwise fun x y => decide (x ≤ y) = true := List.pairwise_mergeSort le_tr le_to l

theorem compact_len_le {α : Type} [DecidableEq α] [Inhabited α] (l : List α) : (compact l).length ≤ l.length := by
  unfold compact compactUpTo
  rw [List.length_map]
  have := List.length_filter_le (keeps l.toArray) (List.range l.length)
  simpa using this
theorem compact_full {α : Type} [DecidableEq α] [Inhabited α] (l : List α) : (compact l).length = l.length ↔ ∀ j, j < l.length → keeps l.toArray j = true := by
  unfold compact compactUpTo
  rw [List.length_map]
  constructor
  · intro h j hj
    have h' : ((List.range l.length).filter (keeps l.toArray)).length = (List.range l.length).length := by rw [h]; simp
    have := List.length_filter_eq_length_iff.1 h'
    exact this j (by simpa using hj)
  · intro h
    have : (List.range l.length).filter (keeps l.toArray) = List.range l.length := List.filter_eq_self.2 (fun j hj => h j (by simpa using hj))
    rw [this]; simp
theorem keeps_succ {α : Type} [DecidableEq α] [Inhabited α] (l : List α) (j : Nat) (hj : j + 1 < l.length) : keeps l.toArray (j + 1) = decide (l[j + 1] ≠ l[j]'(by omega)) := by
  unfold keeps
  have h1 : l.toArray[j + 1]! = l[j + 1] := by simp [hj]
  have h2 : l.toArray[j + 1 - 1]! = l[j]'(by omega) := by simp [show j < l.length by omega]
  rw [h1, h2]
  simp
theorem sorted_nodup (l : List Str) (hs : l.Pairwise fun x y => decide (x ≤ y) = true) : (compact l).length = l.length ↔ l.Nodup := by
  rw [compact_full]
  constructor
  · intro h
    have key : ∀ i j (hi : i < j) (hj : j < l.length), l[i]'(by omega) ≠ l[j] := by
      intro i j hi hj e
      have h1 := h (i + 1) (by omega)
      rw [keeps_succ l i (by omega)] at h1
      have hne : l[i + 1]'(by omega) ≠ l[i]'(by omega) := of_decide_eq_true h1
      have a1 : l[i]'(by omega) ≤ l[i + 1]'(by omega) := by
        have := List.pairwise_iff_getElem.1 hs i (i + 1) (by omega) (by omega) (by omega)
        exact of_decide_eq_true this
      have a2 : l[i + 1]'(by omega) ≤ l[i]'(by omega) := by
        rw [e]
        rcases Nat.lt_or_ge (i + 1) j with hlt | hge
        · have := List.pairwise_iff_getElem.1 hs (i + 1) j (by omega) hj hlt
          exact of_decide_eq_true this
        · obtain rfl : j = i + 1 := by omega
          exact List.le_refl _
      exact hne (List.le_antisymm a2 a1)
    rw [List.nodup_iff_pairwise_ne]
    rw [List.pairwise_iff_getElem]
    intro i j hi hj hij
    exact key i j hij hj
  · intro h j hj
    cases j with
    | zero => simp [keeps]
    | succ j =>
      rw [keeps_succ l j hj]
      rw [List.nodup_iff_pairwise_ne, List.pairwise_iff_getElem] at h
      have := h j (j + 1) (by omega) hj (by omega)
      exact decide_eq_true (fun e => this e.symm)
theorem compact_lt (l : List Str) : (compact (sortS l)).length < l.length ↔ ¬ l.Nodup := by
  have h1 := sorted_nodup (sortS l) (sortS_sorted l)
  have h2 : (sortS l).length = l.length := (sortS_perm l).length_eq
  have h3 : (sortS l).Nodup ↔ l.Nodup := (sortS_perm l).nodup_iff
  have h4 := compact_len_le (sortS l)
  rw [← h3, ← h1]
  omega
end Go.Proofs.YtjaknioojpgkiaaGreatDoor

/- slices.Sorted over slices.Values, slices.Compact behind it, and element.Languages: what they return. No condition. -/
namespace Go.Proofs.YtjaknioojpgkiaaGreatDoor
open Go.RowKit Go.Sort

theorem grew_sorted {α : Type} [Inhabited α] {w0 w1 : World} {blk off : Nat} (hb : w0.heap.size ≤ blk) (hg : Grew w0 w1) (enc : α → Value) (d : Array α) (n : Nat) (os : Array Obj) : Grew w0 (grow (putRow enc (Sort.ahead w1 n) blk off d) os) := by
  refine ⟨hg.os, hg.tape, hg.output, ?_, fun k hk => ?_⟩
  · have := hg.size
    simp
    omega
  · have h1 := hg.size
    rw [heap_grow_old _ _ (by simp; omega)]
    have : (putRow enc (Sort.ahead w1 n) blk off d).heap[k]? = w1.heap[k]? := by
      simp only [putRow, mapBlock, heap_ahead, Array.getElem?_modify]
      rw [if_neg (by omega)]
    rw [this]
    exact hg.block k hk
theorem grew_put {α : Type} [Inhabited α] {w0 w1 : World} {blk off : Nat} (hb : w0.heap.size ≤ blk) (hg : Grew w0 w1) (enc : α → Value) (d : Array α) (n : Nat) : Grew w0 (putRow enc (Sort.ahead w1 n) blk off d) := by
  have := grew_sorted (off := off) hb hg enc d n #[]
  rwa [grow_empty] at this

def strs (l : List ByteArray) : List Str := l.map fun s => s.data.toList
theorem holds_of_own {w : World} {base : Nat} {e : TypeId} {g cap : Nat} {l : List ByteArray} (h : w.ownsRow base e 1 (.slice (some ⟨g, 0, none⟩) l.length cap) l.length (l.map Value.string)) : Holds encStr w g 0 (strs l).toArray := by
  intro j hj
  have hj' : j < l.length := by simpa [strs] using hj
  refine ⟨?_, by rw [Nat.zero_add]; exact h.frozenAt j⟩
  rw [Nat.zero_add, h.cellAt j (by omega)]
  simp [strs, hj', encStr]

/-- slices.Sorted over slices.Values, of a slice that is not empty. -/
theorem sorted_any (sv : Value) (zs : List ByteArray) (hbytes : zs.length * 16 ≤ 140737488355328) (h0 : 0 < zs.length) (Bs : Nat) (w w0 : World) (hBs : Bs < w.heap.size) (hg : Grew w0 w) (hc : w.cell? ⟨Bs, 0, none⟩ = some sv) (hI : SlS w0 sv zs) :
    Calls Tryz.prog 237 #[.func (.func 266) #[] #[.pointer (some ⟨Bs, 0, none⟩)]] w fun e w' => ∃ blk cap, e = .returned (.slice (some ⟨blk, 0, none⟩) zs.length cap) ∧ zs.length ≤ cap ∧ w.heap.size ≤ blk ∧ blk < w'.heap.size ∧ Holds encStr w' blk 0 (sortS (strs zs)).toArray ∧ Grew w w' := by
  have hco := Lib.hid (collectS_any sv zs hbytes Bs w w0 hBs hg hc hI)
  clear hc hI hg hBs
  go_enter Tryz.func237, Tryz.ntmps237
  go_wp2_with fail
  refine hco.out.mono ?_
  rintro e w1 ⟨v, rfl, ho, hb⟩
  obtain ⟨g, cap, hv, hbg, hlt, hcap⟩ := own_form ho h0
  subst hv
  have hH := holds_of_own ho
  have hs := Tryz.slices_Sort_string g 0 cap (strs zs) w1 hH hlt (by simp [strs]; omega)
  rw [show (strs zs).length = zs.length by simp [strs]] at hs
  have HS := Lib.hid hs
  have HH := Lib.hid hH
  clear hs hH ho
  go_wp2_with fail
  refine HS.out.mono ?_
  rintro e w2 ⟨rfl, n, os, hw2⟩
  have hl2 : (sortS (strs zs)).toArray.size = (strs zs).toArray.size := by simp [(sortS_perm (strs zs)).length_eq]
  have hg2 : Grew w w2 := by rw [hw2]; exact grew_sorted hbg hb _ _ _ _
  have hh2 : Holds encStr w2 g 0 (sortS (strs zs)).toArray := by
    rw [hw2]
    exact holds_grow _ _ _ _ _ _ (by simpa using hlt) (holds_putRow _ _ _ _ _ _ (holds_ahead _ _ _ _ _ _ HH.out) hl2)
  have hz2 : g < w2.heap.size := by rw [hw2]; simp; omega
  clear hw2 hl2
  have Hh2 := Lib.hid hh2
  clear hh2
  go_wp2
  go_ret
  exact ⟨g, cap, rfl, hcap, hbg, hz2, Hh2.out, hg2⟩

theorem containsFuncS (l : List ByteArray) (p : ByteArray → Bool) (g : Nat) (lb : Array Value) (eg : ∀ args w, (callFunc g args).run Tryz.prog w = .ok (.enter g args) w) (v : Value) (w : World) (hv : SlS w v l)
    (hp : ∀ W x, Grew w W → x ∈ l → Calls Tryz.prog g (#[.string x] ++ lb) W fun e w' => e = .returned (.bool (p x)) ∧ Grew W w') :
    Calls Tryz.prog 50 #[v, .func (.func g) #[] lb] w fun e w' => e = .returned (.bool (l.any p)) ∧ Grew w w' := by
  have hi := Lib.hid (indexFuncS l p g lb eg v w hv hp)
  have hd : decide (0 ≤ idxP p l) = l.any p := idxP_any p l
  generalize idxP p l = i at hi hd
  have Hd := Lib.hid hd
  clear hv hp hd
  go_enter Tryz.func50, Tryz.ntmps50
  go_wp2_with (first | (go_at_call 108; refine hi.out.mono ?_; rintro e w1 ⟨rfl, hg⟩))
  go_ret
  exact ⟨ret_bool Hd.out, hg⟩

/-- The fault of a list of languages: the errors' numbers. -/
def langsF (l : List ByteArray) : Int :=
  if l.length = 0 then 9 else if 8 < l.length then 8 else if l.any (fun s => !isLangF s.data.toList) then 3 else if (strs l).Nodup then 0 else 6
theorem enters_languages1 : ∀ args w, (callFunc 235 args).run Tryz.prog w = .ok (.enter 235 args) w := enters_of Tryz.func235 (by kernel_rfl) rfl

set_option maxHeartbeats 1000000 in
theorem languages_any (l : List ByteArray) (v : Value) (w : World) (hv : SlS w v l) : Calls Tryz.prog 189 #[v] w fun e w' => e = .returned (.int .i64 (langsF l)) ∧ Grew w w' := by
  have hcf := Lib.hid (containsFuncS l (fun s => !isLangF s.data.toList) _ #[] enters_languages1 v w hv (fun W x _ _ => languages1_any x W))
  have HV := Lib.hid hv
  obtain ⟨A, c, rfl, hlc, hc, hr⟩ := hv.open_
  clear hr
  unfold maxLen at hc
  by_cases h0 : l.length = 0
  · have hr : langsF l = 9 := by simp [langsF, h0]
    rw [hr]
    have hb : ((l.length : Int) == 0) = true := beq_iff_eq.2 (by omega)
    clear h0 hr hcf
    go_enter Tryz.func189, Tryz.ntmps189
    go_wp2
    go_ret
    exact ⟨rfl, Grew.refl w⟩
  have hb : ((l.length : Int) == 0) = false := beq_eq_false_iff_ne.2 (by omega)
  by_cases h8 : 8 < l.length
  · have hr : langsF l = 8 := by simp [langsF, h0, h8]
    rw [hr]
    have h8' : (8 : Int) < (l.length : Int) := by omega
    clear h0 hr hcf
    go_enter Tryz.func189, Tryz.ntmps189
    go_wp2
    go_ret
    exact ⟨rfl, Grew.refl w⟩
  have h8' : ¬ (8 : Int) < (l.length : Int) := by omega
  have hpos : 0 < l.length := by omega
  by_cases hs : l.any (fun s => !isLangF s.data.toList) = true
  · have hr : langsF l = 3 := by simp only [langsF, h0, h8, hs]; rfl
    rw [hr]
    rw [hs] at hcf
    clear h0 hr hs HV
    go_enter Tryz.func189, Tryz.ntmps189
    go_wp2_with (first | (go_at_call 50; refine hcf.out.mono ?_; rintro e w1 ⟨rfl, hg⟩))
    go_ret
    exact ⟨rfl, hg⟩
  simp only [Bool.not_eq_true] at hs
  rw [hs] at hcf
  generalize hR : langsF l = R
  have HR : RowKit.Hid (R = if (Lib.compact (sortS (strs l))).length < l.length then 6 else 0) := by
    have e : langsF l = if (strs l).Nodup then 0 else 6 := by simp only [langsF, h0, h8, hs]; rfl
    have := compact_lt (strs l)
    rw [show (strs l).length = l.length by simp [strs]] at this
    rw [← hR, e]
    by_cases hn : (strs l).Nodup
    · rw [if_pos hn, if_neg (by rw [this]; exact fun h => h hn)]; exact rfl
    · rw [if_neg hn, if_pos (by rw [this]; exact hn)]; exact rfl
  have hle : (Lib.compact (sortS (strs l))).length ≤ l.length := by
    have := compact_len_le (sortS (strs l))
    rw [(sortS_perm (strs l)).length_eq] at this
    simpa [strs] using this
  have hsl : (sortS (strs l)).length = l.length := by rw [(sortS_perm (strs l)).length_eq]; simp [strs]
  have Hsl := Lib.hid hsl
  clear h0 hs hR hsl
  go_enter Tryz.func189, Tryz.ntmps189
  go_wp2_with (first | (go_at_call 50; refine hcf.out.mono ?_; rintro e w1 ⟨rfl, hg⟩) | (go_at_call 238; refine (valuesS_any _ _ _ _).mono ?_; rintro e w2 ⟨rfl, rfl⟩))
  refine (sorted_any (.slice A l.length c) l (by omega) hpos _ _ w1 (by simp) ((Grew.refl w1).alloc _) (by simp) (HV.out.mono hg)).mono ?_
  rintro e w2 ⟨blk, cap, rfl, hcap, hbk, hlt, hH, hg2⟩
  have hcp := Tryz.slices_Compact_string blk 0 cap (sortS (strs l)) w2 hH (by rw [Hsl.out]; omega) (by rw [Hsl.out]; exact hcap)
  rw [Hsl.out] at hcp
  have HCP := Lib.hid hcp
  clear hcp hH
  go_wp2_with (first | (go_at_call 236; refine HCP.out.mono ?_; rintro e w3 ⟨rfl, q, hw3⟩; have hg3 : Grew w w3 := by { rw [hw3]; exact grew_put (Nat.le_trans (by have := hg.size; simp; omega) hbk) ((hg.alloc _).trans hg2) _ _ _ }; clear hw3))
  · have hlt2 : (Lib.compact (sortS (strs l))).length < l.length := by assumption
    go_ret
    exact ⟨congrArg (fun z => Ending.returned (Value.int .i64 z)) (HR.out.trans (if_pos hlt2)).symm, hg3⟩
  · have hlt2 : l.length ≤ (Lib.compact (sortS (strs l))).length := by first | assumption | omega
    go_ret
    exact ⟨congrArg (fun z => Ending.returned (Value.int .i64 z)) (HR.out.trans (if_neg (by omega))).symm, hg3⟩
end Go.Proofs.YtjaknioojpgkiaaGreatDoor

/- slices.Index, Contains at strings; slices.Clone at strings and values. No condition but the sizes that a slice can have. -/
namespace Go.Proofs.YtjaknioojpgkiaaGreatDoor
open Go.RowKit

set_option maxHeartbeats 1000000 in
/-- slices.Index at ByteArray. -/
theorem indexS (l : List ByteArray) (x : ByteArray) (v : Value) (w : World) (hv : SlS w v l) :
    Calls Tryz.prog 158 #[v, .string x] w fun e w' => e = .returned (.int .i64 (idxP (fun y => (x.toList == y.toList)) l)) ∧ w = w' := by
  obtain ⟨A, c, rfl, hlc, hc, hr⟩ := hv.open_
  unfold maxLen at hc
  have HR := Lib.hid hr
  clear hr hv
  generalize hp : (fun y : ByteArray => (x.toList == y.toList)) = p
  have HP := Lib.hid hp
  clear hp
  go_enter Tryz.func158, Tryz.ntmps158
  go_wp2
  go_loop [5, 8] (fun _ s8 => ∃ kk : Nat, kk ≤ l.length ∧ s8 = .int .i64 kk ∧ Aside (∀ i (hi : i < l.length), i < kk → p l[i] = false)) (fun _ i => l.length - (intOf i).toNat)
  case atStart => exact ⟨0, Nat.zero_le _, rfl, fun i hi h => absurd h (Nat.not_lt_zero _)⟩
  case round =>
    obtain ⟨kk, hkk, rfl, M⟩ := hrel
    by_cases hlt : kk < l.length
    · obtain ⟨b, off, rfl, hb, hcell⟩ := HR.out (by omega)
      have c0 := hcell w (Grew.refl w) kk hlt
      clear hcell
      have hq0 : p l[kk] = (x.toList == l[kk].toList) := by rw [← HP.out]
      generalize hy : l[kk] = y at c0 hq0
      have B : Aside (l[kk] = y) := hy
      clear hy
      cases hq : p y with
      | true =>
        rw [hq] at hq0
        have hq1 := hq0.symm
        have Hq : Aside (p y = true) := hq
        clear hq0 hq
        go_wp2
        go_ret
        refine ⟨?_, rfl⟩
        rw [idxP_hit p l kk hlt (by rw [B.out]; exact Hq.out) M.out]
        rfl
      | false =>
        rw [hq] at hq0
        have hq1 := hq0.symm
        have Hq : Aside (p y = false) := hq
        clear hq0 hq
        go_wp2
        go_round
        case measure => simp [intOf]; omega
        case rel =>
          refine ⟨kk + 1, by omega, by go_num, (show Aside _ from fun i hi h => ?_)⟩
          by_cases e : i = kk
          · subst e
            rw [B.out]; exact Hq.out
          · exact M.out i hi (by omega)
    · go_wp2
      go_ret
      refine ⟨?_, rfl⟩
      rw [idxP_miss p l (fun i hi => M.out i hi (by omega))]
      rfl
theorem containsS (l : List ByteArray) (x : ByteArray) (v : Value) (w : World) (hv : SlS w v l) :
    Calls Tryz.prog 111 #[v, .string x] w fun e w' => e = .returned (.bool (l.any fun y => (x.toList == y.toList))) ∧ w = w' := by
  have hi := Lib.hid (indexS l x v w hv)
  have hd := idxP_any (fun y => (x.toList == y.toList)) l
  generalize idxP (fun y => (x.toList == y.toList)) l = i at hi hd
  have Hd := Lib.hid hd
  clear hv hd
  go_enter Tryz.func111, Tryz.ntmps111
  go_wp2_with (first | (go_at_call 158; refine hi.out.mono ?_; rintro e w1 ⟨rfl, rfl⟩))
  go_ret
  exact ⟨ret_bool Hd.out, rfl⟩

theorem cinfoS : (Tryz.prog.info? 9).map (fun i => (i.zero, i.size, i.bytes)) = some (some (.string ⟨#[]⟩), 1, 16) := by kernel_rfl
theorem one_cellsS (l : List ByteArray) : ∀ u ∈ l.flatMap oneS, u.oneCell' = true := by
  intro u hu
  rw [List.mem_flatMap] at hu
  obtain ⟨x, _, hx⟩ := hu
  simp [oneS] at hx
  rcases hx with rfl <;> rfl
set_option maxHeartbeats 1000000 in
/-- slices.Clone at ByteArray: a slice of its own that holds the same. -/
theorem cloneS (l : List ByteArray) (v : Value) (w : World) (hv : SlS w v l) (hb : l.length * 16 ≤ 140737488355328) :
    Calls Tryz.prog 14 #[v] w fun e w' => ∃ v', e = .returned v' ∧ w'.ownsRow w.heap.size 9 1 v' l.length (l.flatMap oneS) ∧ Grew w w' := by
  obtain ⟨A, n, c, rfl, hl, hn, hc, hr⟩ := hv
  have hfl := flatMap_len oneS 1 (fun _ => rfl) l
  obtain rfl : n = l.length := by omega
  unfold maxLen at hc
  have q22 : ∀ (w : World) (a : Option Addr) (n c : Nat), (binOp .eql 26 (.slice a n c) (.slice none 0 0)).run Tryz.prog w = .ok (.bool a.isNone) w := fun w a n c => Lib.run_eql_slice_nil w _ _ a n c 0 0 Tryz.underlying26
  cases A with
  | none =>
    have h0 : l.length = 0 := by
      rcases Nat.eq_zero_or_pos l.length with h | h
      · exact h
      · obtain ⟨b, off, hA, _⟩ := hr h
        cases hA
    obtain rfl : l = [] := List.eq_nil_of_length_eq_zero h0
    clear hr hl hn hfl h0 hb
    go_enter Tryz.func14, Tryz.ntmps14
    go_wp2
    go_ret
    exact ⟨_, rfl, World.ownsRow_nil _ _ _ _, Grew.refl w⟩
  | some ad =>
    have hcells : ∀ j u, (l.flatMap oneS)[j]? = some u → w.cell? (ad.add j) = some u := by
      intro j u hu
      have h0 : 0 < l.length := by
        rcases Nat.eq_zero_or_pos l.length with h | h
        · have := (List.getElem?_eq_some_iff.1 hu).1
          rw [hfl, h] at this
          omega
        · exact h
      obtain ⟨b, off, hA, _, hcell⟩ := hr h0
      cases hA
      rw [add_lit]
      exact hcell j u hu
    have HC := Lib.hid hcells
    have H1 := Lib.hid (one_cellsS l)
    have HL := Lib.hid hl
    generalize l.flatMap oneS = cs at HC H1 HL ⊢
    clear hcells hr hl hfl
    obtain ⟨i0, hi, hz0, hz1, hz2⟩ := info_parts cinfoS
    go_enter Tryz.func14, Tryz.ntmps14
    go_wp2_with (at_builtin; refine wpList_append_own _ rfl _ _ 26 rfl w.heap.size 9 i0 (.string ⟨#[]⟩) 1 16 Tryz.underlying26 hi hz0 hz1 hz2 rfl (by omega) _ _ _ rfl (World.ownsRow_made w #[] 0 (Nat.le_refl _) (Nat.zero_le _) (by simp)) ad l.length c cs rfl ?qc1 ?qc2 ?qc3 ?qc4 ?qc5 ?qc6 ?_)
    case qc1 => exact HL.out
    case qc2 => exact fun j u hu => (Grew.cell ((Grew.refl w).alloc _) (by
      have := block_lt_of_cell (HC.out j u hu)
      exact this)).trans (HC.out j u hu)
    case qc3 => exact H1.out
    case qc4 => unfold maxLen; omega
    case qc5 => omega
    case qc6 => simp
    intro v' w1 hown hgrow _
    go_wp2
    go_ret
    refine ⟨v', rfl, by simpa using hown, ?_⟩
    exact Below.grown ((Below.refl w.heap.size w).alloc (Nat.le_refl _) _) hgrow (by simp) (fun k hk => by simp [Value.ownBlock] at hk; omega)

theorem cinfoV : (Tryz.prog.info? 29).map (fun i => (i.zero, i.size, i.bytes)) = some (some (.agg #[.int .i64 0, .int .i64 0, .string ⟨#[]⟩, .string ⟨#[]⟩]), 4, 48) := by kernel_rfl
theorem one_cellsV (l : List Val) : ∀ u ∈ l.flatMap Val.cells, u.oneCell' = true := by
  intro u hu
  rw [List.mem_flatMap] at hu
  obtain ⟨x, _, hx⟩ := hu
  simp [Val.cells] at hx
  rcases hx with rfl | rfl | rfl | rfl <;> rfl
set_option maxHeartbeats 1000000 in
/-- slices.Clone at Val: a slice of its own that holds the same. -/
theorem cloneV (l : List Val) (v : Value) (w : World) (hv : SlV w v l) (hb : l.length * 48 ≤ 140737488355328) :
    Calls Tryz.prog 15 #[v] w fun e w' => ∃ v', e = .returned v' ∧ w'.ownsRow w.heap.size 29 4 v' l.length (l.flatMap Val.cells) ∧ Grew w w' := by
  obtain ⟨A, n, c, rfl, hl, hn, hc, hr⟩ := hv
  have hfl := flatMap_len Val.cells 4 (fun _ => rfl) l
  obtain rfl : n = l.length := by omega
  unfold maxLen at hc
  have q22 : ∀ (w : World) (a : Option Addr) (n c : Nat), (binOp .eql 27 (.slice a n c) (.slice none 0 0)).run Tryz.prog w = .ok (.bool a.isNone) w := fun w a n c => Lib.run_eql_slice_nil w _ _ a n c 0 0 Tryz.underlying27
  cases A with
  | none =>
    have h0 : l.length = 0 := by
      rcases Nat.eq_zero_or_pos l.length with h | h
      · exact h
      · obtain ⟨b, off, hA, _⟩ := hr h
        cases hA
    obtain rfl : l = [] := List.eq_nil_of_length_eq_zero h0
    clear hr hl hn hfl h0 hb
    go_enter Tryz.func15, Tryz.ntmps15
    go_wp2
    go_ret
    exact ⟨_, rfl, World.ownsRow_nil _ _ _ _, Grew.refl w⟩
  | some ad =>
    have hcells : ∀ j u, (l.flatMap Val.cells)[j]? = some u → w.cell? (ad.add j) = some u := by
      intro j u hu
      have h0 : 0 < l.length := by
        rcases Nat.eq_zero_or_pos l.length with h | h
        · have := (List.getElem?_eq_some_iff.1 hu).1
          rw [hfl, h] at this
          omega
        · exact h
      obtain ⟨b, off, hA, _, hcell⟩ := hr h0
      cases hA
      rw [add_lit]
      exact hcell j u hu
    have HC := Lib.hid hcells
    have H1 := Lib.hid (one_cellsV l)
    have HL := Lib.hid hl
    generalize l.flatMap Val.cells = cs at HC H1 HL ⊢
    clear hcells hr hl hfl
    obtain ⟨i0, hi, hz0, hz1, hz2⟩ := info_parts cinfoV
    go_enter Tryz.func15, Tryz.ntmps15
    go_wp2_with (at_builtin; refine wpList_append_own _ rfl _ _ 27 rfl w.heap.size 29 i0 (.agg #[.int .i64 0, .int .i64 0, .string ⟨#[]⟩, .string ⟨#[]⟩]) 4 48 Tryz.underlying27 hi hz0 hz1 hz2 rfl (by omega) _ _ _ rfl (World.ownsRow_made w #[] 0 (Nat.le_refl _) (Nat.zero_le _) (by simp)) ad l.length c cs rfl ?qc1 ?qc2 ?qc3 ?qc4 ?qc5 ?qc6 ?_)
    case qc1 => exact HL.out
    case qc2 => exact fun j u hu => (Grew.cell ((Grew.refl w).alloc _) (by
      have := block_lt_of_cell (HC.out j u hu)
      exact this)).trans (HC.out j u hu)
    case qc3 => exact H1.out
    case qc4 => unfold maxLen; omega
    case qc5 => omega
    case qc6 => simp
    intro v' w1 hown hgrow _
    go_wp2
    go_ret
    refine ⟨v', rfl, by simpa using hown, ?_⟩
    exact Below.grown ((Below.refl w.heap.size w).alloc (Nat.le_refl _) _) hgrow (by simp) (fun k hk => by simp [Value.ownBlock] at hk; omega)

end Go.Proofs.YtjaknioojpgkiaaGreatDoor

/- Plain facts on the insertion sort that brings one string to the front: no program in sight. No condition. -/
namespace Go.Proofs.YtjaknioojpgkiaaGreatDoor
open Go.Sort
variable {α : Type} [Inhabited α]

theorem swp_mid (p s : List α) (r x : α) : swp (p ++ r :: x :: s).toArray (p.length + 1) p.length = (p ++ x :: r :: s).toArray := by
  unfold swp
  have h1 : (p ++ r :: x :: s).toArray[p.length]! = r := by simp
  have h2 : (p ++ r :: x :: s).toArray[p.length + 1]! = x := by simp
  rw [h1, h2, List.setIfInBounds_toArray, List.setIfInBounds_toArray]
  congr 1
  dsimp only
  rw [List.set_append_right _ _ (by omega), List.set_append_right _ _ (by omega)]
  simp

/-- x goes left past rs and stops behind ws. -/
theorem insInner_move (lt : α → α → Bool) (ws : List α) (x : α) (s : List α) (hstop : ws = [] ∨ ∃ t z, ws = t ++ [z] ∧ lt x z = false) : ∀ (rs : List α), (∀ r ∈ rs, lt x r = true) →
    insInner lt 0 (ws ++ rs).length (ws ++ rs ++ x :: s).toArray = (ws ++ x :: rs ++ s).toArray := by
  intro rs
  generalize hn : rs.length = n
  induction n generalizing rs s with
  | zero =>
    intro _
    obtain rfl : rs = [] := List.eq_nil_of_length_eq_zero hn
    simp only [List.append_nil]
    rcases hstop with rfl | ⟨t, z, rfl, hz⟩
    · simp [insInner]
    · rw [show (t ++ [z]).length = t.length + 1 by simp, insInner]
      have h1 : ((t ++ [z]) ++ x :: s).toArray[t.length + 1]! = x := by simp
      have h2 : ((t ++ [z]) ++ x :: s).toArray[t.length]! = z := by simp
      rw [h1, h2, hz]
      simp
  | succ n ih =>
    intro h
    obtain ⟨q, r, rfl⟩ : ∃ q r, rs = q ++ [r] := by
      rcases List.eq_nil_or_concat rs with rfl | ⟨q, r, e⟩
      · simp at hn
      · exact ⟨q, r, by simpa using e⟩
    have hq : q.length = n := by simpa using hn
    rw [show (ws ++ (q ++ [r])).length = (ws ++ q).length + 1 by simp [Nat.add_assoc], insInner]
    have e : ws ++ (q ++ [r]) ++ x :: s = (ws ++ q) ++ r :: x :: s := by simp
    rw [e]
    have h1 : ((ws ++ q) ++ r :: x :: s).toArray[(ws ++ q).length + 1]! = x := by
      generalize ws ++ q = t
      simp
    have h2 : ((ws ++ q) ++ r :: x :: s).toArray[(ws ++ q).length]! = r := by
      generalize ws ++ q = t
      simp
    rw [h1, h2, h r (by simp), swp_mid (ws ++ q) s r x]
    simp only [Nat.zero_lt_succ, gt_iff_lt, decide_true, Bool.and_self, if_true]
    rw [ih (r :: s) q hq (fun r' hr' => h r' (by simp [hr']))]
    simp
/-- x stays where it is. -/
theorem insInner_stay (lt : α → α → Bool) (p : List α) (x : α) (s : List α) (h : ∀ r ∈ p, lt x r = false) : insInner lt 0 p.length (p ++ x :: s).toArray = (p ++ x :: s).toArray := by
  rcases List.eq_nil_or_concat p with rfl | ⟨q, r, e⟩
  · simp [insInner]
  · have e' : p = q ++ [r] := by simpa using e
    have := insInner_move lt p x s (.inr ⟨q, r, e', h r (by simp [e'])⟩) [] (by simp)
    simpa using this

/-- What the sort does that brings the elements of which f holds to the front. -/
def front (f : α → Bool) (l : List α) : List α := l.filter f ++ l.filter fun x => !f x
omit [Inhabited α] in
theorem front_snoc (f : α → Bool) (l : List α) (x : α) : front f (l ++ [x]) = if f x then l.filter f ++ x :: l.filter (fun x => !f x) else front f l ++ [x] := by
  unfold front
  by_cases h : f x = true
  · simp [h]
  · simp only [Bool.not_eq_true] at h
    simp [h]
omit [Inhabited α] in
theorem len_split (f : α → Bool) (p : List α) : (p.filter f).length + (p.filter fun x => !f x).length = p.length := by
  induction p with
  | nil => rfl
  | cons x r ih =>
    by_cases h : f x = true
    · simp [h]; omega
    · simp only [Bool.not_eq_true] at h
      simp [h]; omega
theorem insStep (lt : α → α → Bool) (f : α → Bool) (p : List α) (x : α) (s : List α) (h1 : ∀ r ∈ p, f x = true → f r = false → lt x r = true) (h2 : ∀ r ∈ p, f x = true → f r = true → lt x r = false) (h3 : ∀ r ∈ p, f x = false → lt x r = false) :
    insInner lt 0 p.length (front f p ++ x :: s).toArray = (front f (p ++ [x]) ++ s).toArray := by
  have hlen : (front f p).length = p.length := by
    unfold front
    rw [List.length_append]
    exact len_split f p
  rw [front_snoc]
  by_cases hx : f x = true
  · rw [if_pos hx]
    have := insInner_move lt (p.filter f) x s (by
      rcases List.eq_nil_or_concat (p.filter f) with e | ⟨t, z, e⟩
      · exact .inl e
      · have e' : p.filter f = t ++ [z] := by simpa using e
        have hz : z ∈ p.filter f := by rw [e']; simp
        rw [List.mem_filter] at hz
        exact .inr ⟨t, z, e', h2 z hz.1 hx hz.2⟩) (p.filter fun x => !f x) (fun r hr => by
        rw [List.mem_filter] at hr
        exact h1 r hr.1 hx (by simpa using hr.2))
    rw [show (p.filter f ++ p.filter fun x => !f x).length = p.length from hlen] at this
    unfold front
    rw [this]
  · simp only [Bool.not_eq_true] at hx
    rw [hx]
    simp only [Bool.false_eq_true, if_false]
    have := insInner_stay lt (front f p) x s (fun r hr => h3 r (by
      unfold front at hr
      simp only [List.mem_append, List.mem_filter] at hr
      rcases hr with hr | hr <;> exact hr.1) hx)
    rw [hlen] at this
    rw [this]
    simp
theorem insOuter_front (lt : α → α → Bool) (f : α → Bool) (l : List α) (h1 : ∀ x ∈ l, ∀ r ∈ l, f x = true → f r = false → lt x r = true) (h2 : ∀ x ∈ l, ∀ r ∈ l, f x = true → f r = true → lt x r = false) (h3 : ∀ x ∈ l, ∀ r ∈ l, f x = false → lt x r = false) :
    ∀ (n i : Nat), l.length - i = n → i ≤ l.length → insOuter lt 0 l.length i (front f (l.take i) ++ l.drop i).toArray = (front f l).toArray := by
  intro n
  induction n with
  | zero =>
    intro i hn hi
    obtain rfl : i = l.length := by omega
    rw [insOuter, if_neg (by omega)]
    simp
  | succ n ih =>
    intro i hn hi
    have hlt : i < l.length := by omega
    rw [insOuter, if_pos hlt, List.drop_eq_getElem_cons hlt]
    have hs := insStep lt f (l.take i) l[i] (l.drop (i + 1)) (fun r hr => h1 _ (List.getElem_mem hlt) r (List.mem_of_mem_take hr)) (fun r hr => h2 _ (List.getElem_mem hlt) r (List.mem_of_mem_take hr)) (fun r hr => h3 _ (List.getElem_mem hlt) r (List.mem_of_mem_take hr))
    rw [List.length_take, Nat.min_eq_left (by omega)] at hs
    rw [hs, ← List.take_succ_eq_append_getElem hlt]
    exact ih (i + 1) (by omega) (by omega)
theorem insertionSort_front (lt : α → α → Bool) (f : α → Bool) (l : List α) (h1 : ∀ x ∈ l, ∀ r ∈ l, f x = true → f r = false → lt x r = true) (h2 : ∀ x ∈ l, ∀ r ∈ l, f x = true → f r = true → lt x r = false) (h3 : ∀ x ∈ l, ∀ r ∈ l, f x = false → lt x r = false) :
    insertionSort lt l.toArray 0 l.length = (front f l).toArray := by
  cases l with
  | nil =>
    unfold insertionSort
    rw [insOuter, if_neg (by simp)]
    rfl
  | cons x r =>
    have h := insOuter_front lt f (x :: r) h1 h2 h3 _ 1 rfl (by simp)
    have e : front f ((x :: r).take 1) ++ (x :: r).drop 1 = x :: r := by
      by_cases hx : f x = true
      · simp [front, hx]
      · simp only [Bool.not_eq_true] at hx
        simp [front, hx]
    rw [e] at h
    exact h
end Go.Proofs.YtjaknioojpgkiaaGreatDoor
