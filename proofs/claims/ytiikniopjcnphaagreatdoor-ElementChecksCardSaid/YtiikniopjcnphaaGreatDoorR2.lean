/- The reference implementation's check of the languages, walked: it answers as the program's own. No condition. -/
import Derived.Test.YtiikniopjcnphaaGreatDoorR1
import Derived.BigQuiet
namespace Go.Proofs.YtiikniopjcnphaaGreatDoor
open Go.RowKit

theorem hasF_take (l : List ByteArray) (k : Nat) (hk : k < l.length) : hasF (l.take k) l[k] = true ↔ ∃ i, ∃ hi : i < k, l[i].toList = l[k].toList := by
  rw [hasF, List.any_eq_true]
  constructor
  · rintro ⟨y, hy, hq⟩
    obtain ⟨i, hi, rfl⟩ := List.mem_iff_getElem.1 hy
    rw [List.length_take] at hi
    refine ⟨i, by omega, ?_⟩
    rw [List.getElem_take] at hq
    exact eq_of_beq hq
  · rintro ⟨i, hi, hq⟩
    refine ⟨l[i], ?_, by rw [hq]; simp⟩
    exact List.mem_take_iff_getElem.2 ⟨i, by omega, rfl⟩
theorem nodup_of (l : List ByteArray) (h : ∀ k (hk : k < l.length), hasF (l.take k) l[k] = false) : (strs l).Nodup := by
  rw [List.Nodup, List.pairwise_iff_getElem]
  intro i j hi hj hij
  simp only [strs, List.length_map] at hi hj
  simp only [strs, List.getElem_map]
  intro e
  have := h j hj
  rw [(hasF_take l j hj).2 ⟨i, hij, by simpa [toList_data] using e⟩] at this
  cases this
theorem not_nodup_of (l : List ByteArray) (k : Nat) (hk : k < l.length) (h : hasF (l.take k) l[k] = true) : ¬ (strs l).Nodup := by
  obtain ⟨i, hi, e⟩ := (hasF_take l k hk).1 h
  rw [List.Nodup, List.pairwise_iff_getElem]
  intro hp
  have := hp i k (by simp [strs]; omega) (by simpa [strs] using hk) hi
  simp only [strs, List.getElem_map] at this
  exact this (by simpa [toList_data] using e)
theorem SlS.take {w : World} {A : Option Addr} {n c : Nat} {l : List ByteArray} (hv : SlS w (.slice A n c) l) (k : Nat) (hk : k ≤ l.length) : SlS w (.slice A k c) (l.take k) := by
  obtain ⟨A', n', c', hs, hl, hn, hc, hr⟩ := hv
  cases hs
  rw [flatMap_len oneS 1 (fun _ => rfl)] at hl
  refine ⟨A, k, c, rfl, ?_, by omega, hc, fun h0 => ?_⟩
  · rw [flatMap_len oneS 1 (fun _ => rfl), List.length_take]
    omega
  · obtain ⟨b, off, hA, hb, hcell⟩ := hr (by omega)
    refine ⟨b, off, hA, hb, fun j u hu => hcell j u ?_⟩
    have e : ∀ m : List ByteArray, m.flatMap oneS = m.map Value.string := fun m => by
      induction m with
      | nil => rfl
      | cons x r ih => simp [List.flatMap_cons, oneS, ih]
    rw [e, List.getElem?_map, List.getElem?_take] at hu
    rw [e, List.getElem?_map]
    split at hu
    · exact hu
    · cases hu
set_option maxHeartbeats 2000000 in
theorem refLanguages_any (l : List ByteArray) (v : Value) (w : World) (hv : SlS w v l) : Calls Tryz.prog 26 #[v] w fun e w' => e = .returned (.int .i64 (langsF l)) ∧ Grew w w' := by
  have HV := Lib.hid hv
  obtain ⟨A, c, rfl, hlc, hc, hr⟩ := hv.open_
  unfold maxLen at hc
  have HR := Lib.hid hr
  clear hr hv
  by_cases h0 : l.length = 0
  · have hb : ((l.length : Int) == 0) = true := by simp [h0]
    have hC : langsF l = 9 := by simp [langsF, h0]
    rw [hC]
    go_enter Tryz.func26, Tryz.ntmps26
    go_wp2
    go_ret
    exact ⟨rfl, Grew.refl w⟩
  have hb : ((l.length : Int) == 0) = false := by rw [beq_eq_false_iff_ne]; omega
  by_cases h8 : 8 < l.length
  · have hb8 : (8 : Int) < (l.length : Int) := by omega
    have hC : langsF l = 8 := by simp [langsF, h0, h8]
    rw [hC]
    go_enter Tryz.func26, Tryz.ntmps26
    go_wp2
    go_ret
    exact ⟨rfl, Grew.refl w⟩
  have hb8 : decide ((8 : Int) < (l.length : Int)) = false := by simp; omega
  have hC : langsF l = if l.any (fun s => !isLangF s.data.toList) then 3 else if (strs l).Nodup then 0 else 6 := by simp [langsF, h0, h8]
  generalize langsF l = R at hC
  have HC := Lib.hid hC
  clear hC
  obtain ⟨b, off, rfl, hbk, hcell⟩ := HR.out (by omega)
  have HCELL := Lib.hid hcell
  clear hcell HR
  go_enter Tryz.func26, Tryz.ntmps26
  go_wp2
  go_loopg [3] 8 (fun gg s3 wr => ∃ k : Nat, k ≤ l.length ∧ l.length - k ≤ gg ∧ s3 = .int .i64 k ∧ wr = w ∧ Aside (∀ i (hi : i < l.length), i < k → isLangF l[i].data.toList = true))
  case atStart => exact ⟨0, by omega, by omega, rfl, rfl, fun i hi h2 => by omega⟩
  case round =>
    obtain ⟨k, hk, hgk, rfl, rfl, M⟩ := hrel
    by_cases hlt : k < l.length
    · have hltz : (k : Int) < (l.length : Int) := by omega
      have h0z : (0 : Int) ≤ (k : Int) := by omega
      have hcl := HCELL.out wr (Grew.refl wr) k hlt
      have kl := isLanguage_any l[k]
      cases hq : isLangF l[k].data.toList with
      | false =>
        have hA : l.any (fun s => !isLangF s.data.toList) = true := List.any_eq_true.2 ⟨l[k], List.getElem_mem hlt, by simp [hq]⟩
        have Hh := Lib.hid (HC.out.trans (if_pos hA))
        rw [hq] at kl
        have KL := Lib.hid kl
        generalize l[k] = y at hcl KL
        clear hA kl hq
        go_wp2_with (first | (go_at_call 52; refine (KL.out _).mono ?_; rintro e w1 ⟨rfl, rfl⟩))
        go_ret
        exact ⟨congrArg (fun z => Ending.returned (Value.int .i64 z)) Hh.out.symm, Grew.refl _⟩
      | true =>
        rw [hq] at kl
        have KL := Lib.hid kl
        have Hq := Lib.hid hq
        generalize l[k] = y at hcl KL
        clear kl hq
        go_wp2_with (first | (go_at_call 52; refine (KL.out _).mono ?_; rintro e w1 ⟨rfl, rfl⟩))
        go_roundg (l.length - (k + 1))
        case measure => omega
        case rel =>
          refine ⟨k + 1, by omega, by omega, by go_num, rfl, (show Aside _ from fun i hi h2 => ?_)⟩
          by_cases e : i = k
          · subst e; exact Hq.out
          · exact M.out i hi (by omega)
    · have hltz : ¬ (k : Int) < (l.length : Int) := by omega
      have hA : ¬ l.any (fun s => !isLangF s.data.toList) = true := by
        simp only [Bool.not_eq_true, List.any_eq_false]
        intro y hy
        obtain ⟨i, hi, rfl⟩ := List.mem_iff_getElem.1 hy
        simp [M.out i hi (by omega)]
      have Hh := Lib.hid (HC.out.trans (if_neg hA))
      clear hA M HC
      go_wp2
      go_loopg [4] 8 (fun gg s4 wx => ∃ m : Nat, m ≤ l.length ∧ l.length - m ≤ gg ∧ s4 = .int .i64 m ∧ Aside (Grew wr wx) ∧ Aside (∀ i (hi : i < l.length), i < m → hasF (l.take i) l[i] = false))
      case atStart => exact ⟨0, by omega, by omega, rfl, Grew.refl _, fun i hi h2 => by omega⟩
      case round =>
        obtain ⟨m, hm, hgm, rfl, BW, M⟩ := hrel
        by_cases hlm : m < l.length
        · have hlmz : (m : Int) < (l.length : Int) := by omega
          have h0m : (0 : Int) ≤ (m : Int) := by omega
          have hcm : (m : Int) ≤ (c : Int) := by omega
          have hcl := HCELL.out wr BW.out m hlm
          have kh : ∀ n, Calls Tryz.prog 28 #[.slice (some ⟨b, off, none⟩) m c, .string l[m]] (wr.drewN n) fun e w' => e = .returned (.bool (hasF (l.take m) l[m])) ∧ w' = wr.drewN n :=
            fun n => (has_any (l.take m) l[m] _ _ ((HV.out.mono (BW.out.drewN n)).take m hm)).mono (fun _ _ h => ⟨h.1, h.2.symm⟩)
          cases hq : hasF (l.take m) l[m] with
          | true =>
            have Hn := Lib.hid (Hh.out.trans (if_neg (not_nodup_of l m hlm hq)))
            rw [hq] at kh
            have KH := Lib.hid kh
            generalize l[m] = y at hcl KH
            clear kh hq Hh
            go_wp2
            go_quiet (first | (go_at_call 28; exact Calls.quiet_of_same (KH.out _)))
            go_wp2
            go_ret
            exact ⟨congrArg (fun z => Ending.returned (Value.int .i64 z)) Hn.out.symm, BW.out.drewN _⟩
          | false =>
            rw [hq] at kh
            have KH := Lib.hid kh
            have Hq := Lib.hid hq
            generalize l[m] = y at hcl KH
            clear kh hq
            go_wp2
            go_quiet (first | (go_at_call 28; exact Calls.quiet_of_same (KH.out _)))
            go_wp2
            go_roundg (l.length - (m + 1))
            case measure => omega
            case rel =>
              refine ⟨m + 1, by omega, by omega, by go_num, (show Aside _ from BW.out.drewN _), (show Aside _ from fun i hi h2 => ?_)⟩
              by_cases e : i = m
              · subst e; exact Hq.out
              · exact M.out i hi (by omega)
        · have hlmz : ¬ (m : Int) < (l.length : Int) := by omega
          have Hn := Lib.hid (Hh.out.trans (if_pos (nodup_of l (fun i hi => M.out i hi (by omega)))))
          clear Hh
          go_wp2
          go_ret
          exact ⟨congrArg (fun z => Ending.returned (Value.int .i64 z)) Hn.out.symm, BW.out⟩
end Go.Proofs.YtiikniopjcnphaaGreatDoor
