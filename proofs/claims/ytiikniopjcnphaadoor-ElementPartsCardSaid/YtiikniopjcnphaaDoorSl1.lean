/- slices.Index, Contains at strings; slices.Clone at strings and values. No condition but the sizes that a slice can have. -/
import Derived.Test.YtiikniopjcnphaaDoorProg
import Derived.Test.YtiikniopjcnphaaDoorTypes
import Derived.Lib.LazyBuf
namespace Go.Proofs.YtiikniopjcnphaaDoor
open Go.RowKit

set_option maxHeartbeats 1000000 in
/-- slices.Index at ByteArray. -/
theorem indexS (l : List ByteArray) (x : ByteArray) (v : Value) (w : World) (hv : SlS w v l) :
    Calls Tryd.prog 52 #[v, .string x] w fun e w' => e = .returned (.int .i64 (idxP (fun y => (x.toList == y.toList)) l)) ∧ w = w' := by
  obtain ⟨A, c, rfl, hlc, hc, hr⟩ := hv.open_
  unfold maxLen at hc
  have HR := Lib.hid hr
  clear hr hv
  generalize hp : (fun y : ByteArray => (x.toList == y.toList)) = p
  have HP := Lib.hid hp
  clear hp
  go_enter Tryd.func52, Tryd.ntmps52
  go_wp2
  go_loop [5, 8] (fun _ s8 => ∃ kk : Nat, kk ≤ l.length ∧ s8 = .int .i64 kk ∧ Aside (∀ i (hi : i < l.length), i < kk → p l[i] = false)) (fun _ i => l.length - (intOf i).toNat)
  case atStart => exact ⟨0, Nat.zero_le _, rfl, fun i hi h => absurd h (Nat.not_lt_zero _)⟩
  case round =>
    obtain ⟨kk, hkk, rfl, M⟩ := hrel
    by_cases hlt : kk < l.length
    · obtain ⟨b, off, rfl, hb, hcell⟩ := HR.out (by omega)
      have c0 := hcell w (Grew.refl w) kk hlt
      clear hcell
      have hq0 : p l[kk] = (x.toList == l[kk].toList) := by rw [← HP.out]
      generalize hy : l[kk] = y at c0 hq0
      have B : Aside (l[kk] = y) := hy
      clear hy
      cases hq : p y with
      | true =>
        rw [hq] at hq0
        have hq1 := hq0.symm
        have Hq : Aside (p y = true) := hq
        clear hq0 hq
        go_wp2
        go_ret
        refine ⟨?_, rfl⟩
        rw [idxP_hit p l kk hlt (by rw [B.out]; exact Hq.out) M.out]
        rfl
      | false =>
        rw [hq] at hq0
        have hq1 := hq0.symm
        have Hq : Aside (p y = false) := hq
        clear hq0 hq
        go_wp2
        go_round
        case measure => simp [intOf]; omega
        case rel =>
          refine ⟨kk + 1, by omega, by go_num, (show Aside _ from fun i hi h => ?_)⟩
          by_cases e : i = kk
          · subst e
            rw [B.out]; exact Hq.out
          · exact M.out i hi (by omega)
    · go_wp2
      go_ret
      refine ⟨?_, rfl⟩
      rw [idxP_miss p l (fun i hi => M.out i hi (by omega))]
      rfl
theorem containsS (l : List ByteArray) (x : ByteArray) (v : Value) (w : World) (hv : SlS w v l) :
    Calls Tryd.prog 28 #[v, .string x] w fun e w' => e = .returned (.bool (l.any fun y => (x.toList == y.toList))) ∧ w = w' := by
  have hi := Lib.hid (indexS l x v w hv)
  have hd := idxP_any (fun y => (x.toList == y.toList)) l
  generalize idxP (fun y => (x.toList == y.toList)) l = i at hi hd
  have Hd := Lib.hid hd
  clear hv hd
  go_enter Tryd.func28, Tryd.ntmps28
  go_wp2_with (first | (go_at_call 52; refine hi.out.mono ?_; rintro e w1 ⟨rfl, rfl⟩))
  go_ret
  exact ⟨ret_bool Hd.out, rfl⟩

theorem cinfoS : (Tryd.prog.info? 9).map (fun i => (i.zero, i.size, i.bytes)) = some (some (.string ⟨#[]⟩), 1, 16) := by kernel_rfl
theorem one_cellsS (l : List ByteArray) : ∀ u ∈ l.flatMap oneS, u.oneCell' = true := by
  intro u hu
  rw [List.mem_flatMap] at hu
  obtain ⟨x, _, hx⟩ := hu
  simp [oneS] at hx
  rcases hx with rfl <;> rfl
set_option maxHeartbeats 1000000 in
/-- slices.Clone at ByteArray: a slice of its own that holds the same. -/
theorem cloneS (l : List ByteArray) (v : Value) (w : World) (hv : SlS w v l) (hb : l.length * 16 ≤ 140737488355328) :
    Calls Tryd.prog 20 #[v] w fun e w' => ∃ v', e = .returned v' ∧ w'.ownsRow w.heap.size 9 1 v' l.length (l.flatMap oneS) ∧ Grew w w' := by
  obtain ⟨A, n, c, rfl, hl, hn, hc, hr⟩ := hv
  have hfl := flatMap_len oneS 1 (fun _ => rfl) l
  obtain rfl : n = l.length := by omega
  unfold maxLen at hc
  have q22 : ∀ (w : World) (a : Option Addr) (n c : Nat), (binOp .eql 28 (.slice a n c) (.slice none 0 0)).run Tryd.prog w = .ok (.bool a.isNone) w := fun w a n c => Lib.run_eql_slice_nil w _ _ a n c 0 0 Tryd.underlying28
  cases A with
  | none =>
    have h0 : l.length = 0 := by
      rcases Nat.eq_zero_or_pos l.length with h | h
      · exact h
      · obtain ⟨b, off, hA, _⟩ := hr h
        cases hA
    obtain rfl : l = [] := List.eq_nil_of_length_eq_zero h0
    clear hr hl hn hfl h0 hb
    go_enter Tryd.func20, Tryd.ntmps20
    go_wp2
    go_ret
    exact ⟨_, rfl, World.ownsRow_nil _ _ _ _, Grew.refl w⟩
  | some ad =>
    have hcells : ∀ j u, (l.flatMap oneS)[j]? = some u → w.cell? (ad.add j) = some u := by
      intro j u hu
      have h0 : 0 < l.length := by
        rcases Nat.eq_zero_or_pos l.length with h | h
        · have := (List.getElem?_eq_some_iff.1 hu).1
          rw [hfl, h] at this
          omega
        · exact h
      obtain ⟨b, off, hA, _, hcell⟩ := hr h0
      cases hA
      rw [add_lit]
      exact hcell j u hu
    have HC := Lib.hid hcells
    have H1 := Lib.hid (one_cellsS l)
    have HL := Lib.hid hl
    generalize l.flatMap oneS = cs at HC H1 HL ⊢
    clear hcells hr hl hfl
    obtain ⟨i0, hi, hz0, hz1, hz2⟩ := info_parts cinfoS
    go_enter Tryd.func20, Tryd.ntmps20
    go_wp2_with (at_builtin; refine wpList_append_own _ rfl _ _ 28 rfl w.heap.size 9 i0 (.string ⟨#[]⟩) 1 16 Tryd.underlying28 hi hz0 hz1 hz2 rfl (by omega) _ _ _ rfl (World.ownsRow_made w #[] 0 (Nat.le_refl _) (Nat.zero_le _) (by simp)) ad l.length c cs rfl ?qc1 ?qc2 ?qc3 ?qc4 ?qc5 ?qc6 ?_)
    case qc1 => exact HL.out
    case qc2 => exact fun j u hu => (Grew.cell ((Grew.refl w).alloc _) (by
      have := block_lt_of_cell (HC.out j u hu)
      exact this)).trans (HC.out j u hu)
    case qc3 => exact H1.out
    case qc4 => unfold maxLen; omega
    case qc5 => omega
    case qc6 => simp
    intro v' w1 hown hgrow _
    go_wp2
    go_ret
    refine ⟨v', rfl, by simpa using hown, ?_⟩
    exact Below.grown ((Below.refl w.heap.size w).alloc (Nat.le_refl _) _) hgrow (by simp) (fun k hk => by simp [Value.ownBlock] at hk; omega)

theorem cinfoV : (Tryd.prog.info? 31).map (fun i => (i.zero, i.size, i.bytes)) = some (some (.agg #[.int .i64 0, .int .i64 0, .string ⟨#[]⟩, .string ⟨#[]⟩]), 4, 48) := by kernel_rfl
theorem one_cellsV (l : List Val) : ∀ u ∈ l.flatMap Val.cells, u.oneCell' = true := by
  intro u hu
  rw [List.mem_flatMap] at hu
  obtain ⟨x, _, hx⟩ := hu
  simp [Val.cells] at hx
  rcases hx with rfl | rfl | rfl | rfl <;> rfl
set_option maxHeartbeats 1000000 in
/-- slices.Clone at Val: a slice of its own that holds the same. -/
theorem cloneV (l : List Val) (v : Value) (w : World) (hv : SlV w v l) (hb : l.length * 48 ≤ 140737488355328) :
    Calls Tryd.prog 31 #[v] w fun e w' => ∃ v', e = .returned v' ∧ w'.ownsRow w.heap.size 31 4 v' l.length (l.flatMap Val.cells) ∧ Grew w w' := by
  obtain ⟨A, n, c, rfl, hl, hn, hc, hr⟩ := hv
  have hfl := flatMap_len Val.cells 4 (fun _ => rfl) l
  obtain rfl : n = l.length := by omega
  unfold maxLen at hc
  have q22 : ∀ (w : World) (a : Option Addr) (n c : Nat), (binOp .eql 32 (.slice a n c) (.slice none 0 0)).run Tryd.prog w = .ok (.bool a.isNone) w := fun w a n c => Lib.run_eql_slice_nil w _ _ a n c 0 0 Tryd.underlying32
  cases A with
  | none =>
    have h0 : l.length = 0 := by
      rcases Nat.eq_zero_or_pos l.length with h | h
      · exact h
      · obtain ⟨b, off, hA, _⟩ := hr h
        cases hA
    obtain rfl : l = [] := List.eq_nil_of_length_eq_zero h0
    clear hr hl hn hfl h0 hb
    go_enter Tryd.func31, Tryd.ntmps31
    go_wp2
    go_ret
    exact ⟨_, rfl, World.ownsRow_nil _ _ _ _, Grew.refl w⟩
  | some ad =>
    have hcells : ∀ j u, (l.flatMap Val.cells)[j]? = some u → w.cell? (ad.add j) = some u := by
      intro j u hu
      have h0 : 0 < l.length := by
        rcases Nat.eq_zero_or_pos l.length with h | h
        · have := (List.getElem?_eq_some_iff.1 hu).1
          rw [hfl, h] at this
          omega
        · exact h
      obtain ⟨b, off, hA, _, hcell⟩ := hr h0
      cases hA
      rw [add_lit]
      exact hcell j u hu
    have HC := Lib.hid hcells
    have H1 := Lib.hid (one_cellsV l)
    have HL := Lib.hid hl
    generalize l.flatMap Val.cells = cs at HC H1 HL ⊢
    clear hcells hr hl hfl
    obtain ⟨i0, hi, hz0, hz1, hz2⟩ := info_parts cinfoV
    go_enter Tryd.func31, Tryd.ntmps31
    go_wp2_with (at_builtin; refine wpList_append_own _ rfl _ _ 32 rfl w.heap.size 31 i0 (.agg #[.int .i64 0, .int .i64 0, .string ⟨#[]⟩, .string ⟨#[]⟩]) 4 48 Tryd.underlying32 hi hz0 hz1 hz2 rfl (by omega) _ _ _ rfl (World.ownsRow_made w #[] 0 (Nat.le_refl _) (Nat.zero_le _) (by simp)) ad l.length c cs rfl ?qc1 ?qc2 ?qc3 ?qc4 ?qc5 ?qc6 ?_)
    case qc1 => exact HL.out
    case qc2 => exact fun j u hu => (Grew.cell ((Grew.refl w).alloc _) (by
      have := block_lt_of_cell (HC.out j u hu)
      exact this)).trans (HC.out j u hu)
    case qc3 => exact H1.out
    case qc4 => unfold maxLen; omega
    case qc5 => omega
    case qc6 => simp
    intro v' w1 hown hgrow _
    go_wp2
    go_ret
    refine ⟨v', rfl, by simpa using hown, ?_⟩
    exact Below.grown ((Below.refl w.heap.size w).alloc (Nat.le_refl _) _) hgrow (by simp) (fun k hk => by simp [Value.ownBlock] at hk; omega)

end Go.Proofs.YtiikniopjcnphaaDoor
