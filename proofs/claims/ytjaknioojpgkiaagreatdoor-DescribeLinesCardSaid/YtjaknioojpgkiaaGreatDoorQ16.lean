/- Lemmas on what the functions of the program and of the library compute: R1, R2, R5. The conditions stand at each. -/
import Derived.Test.YtjaknioojpgkiaaGreatDoorQ8
import Derived.BigQuiet
import Derived.Test.YtjaknioojpgkiaaGreatDoorQ10
import Derived.Test.YtjaknioojpgkiaaGreatDoorQ3
/- The reference implementation's search in a list of strings, walked. No condition. -/
namespace Go.Proofs.YtjaknioojpgkiaaGreatDoor
open Go.RowKit

/-- Whether a list has a string. -/
def hasF (l : List ByteArray) (s : ByteArray) : Bool := l.any fun y => y.toList == s.toList
theorem hasF_hit (l : List ByteArray) (s : ByteArray) (k : Nat) (hk : k < l.length) (h : (l[k].toList == s.toList) = true) : hasF l s = true := List.any_eq_true.2 ⟨l[k], List.getElem_mem hk, h⟩
theorem hasF_miss (l : List ByteArray) (s : ByteArray) (h : ∀ i (hi : i < l.length), (l[i].toList == s.toList) = false) : hasF l s = false := by
  rw [hasF, List.any_eq_false]
  intro y hy
  obtain ⟨i, hi, rfl⟩ := List.mem_iff_getElem.1 hy
  simp [h i hi]
set_option maxHeartbeats 1000000 in
theorem has_any (l : List ByteArray) (s : ByteArray) (v : Value) (w : World) (hv : SlS w v l) : Calls Tryz.prog 215 #[v, .string s] w fun e w' => e = .returned (.bool (hasF l s)) ∧ w = w' := by
  obtain ⟨A, c, rfl, hlc, hc, hr⟩ := hv.open_
  unfold maxLen at hc
  have HR := Lib.hid hr
  clear hr hv
  generalize hF : hasF l s = R
  have HF := Lib.hid hF
  clear hF
  go_enter Tryz.func215, Tryz.ntmps215
  go_wp2
  go_loop [5] (fun i => ∃ k : Nat, k ≤ l.length ∧ i = .int .i64 k ∧ Aside (∀ i (hi : i < l.length), i < k → (l[i].toList == s.toList) = false)) (fun i => l.length - (intOf i).toNat)
  case atStart => exact ⟨0, by omega, rfl, fun i hi h2 => by omega⟩
  case round =>
    obtain ⟨k, hk, rfl, M⟩ := hrel
    by_cases hlt : k < l.length
    · have hltz : (k : Int) < (l.length : Int) := by omega
      have h0z : (0 : Int) ≤ (k : Int) := by omega
      obtain ⟨b, off, rfl, hb, hcell⟩ := HR.out (by omega)
      have hcl := hcell w (Grew.refl w) k hlt
      cases hq : (l[k].toList == s.toList) with
      | true =>
        have Hh := Lib.hid (HF.out.symm.trans (hasF_hit l s k hlt hq))
        generalize l[k] = y at hcl hq
        clear hcell
        go_wp2
        go_ret
        exact ⟨ret_bool Hh.out.symm, rfl⟩
      | false =>
        have Hq : Aside ((l[k].toList == s.toList) = false) := hq
        generalize l[k] = y at hcl hq
        clear hcell
        go_wp2
        go_round
        case rel =>
          refine ⟨k + 1, by omega, by go_num, fun i hi h2 => ?_⟩
          by_cases e : i = k
          · subst e; exact Hq.out
          · exact M.out i hi (by omega)
        case measure => simp [intOf]; omega
    · have hltz : ¬ (k : Int) < (l.length : Int) := by omega
      have Hm := Lib.hid (HF.out.symm.trans (hasF_miss l s (fun i hi => M.out i hi (by omega))))
      go_wp2
      go_ret
      exact ⟨ret_bool Hm.out.symm, rfl⟩
end Go.Proofs.YtjaknioojpgkiaaGreatDoor

/- The reference implementation's check of the languages, walked: it answers as the program's own. No condition. -/
namespace Go.Proofs.YtjaknioojpgkiaaGreatDoor
open Go.RowKit

theorem hasF_take (l : List ByteArray) (k : Nat) (hk : k < l.length) : hasF (l.take k) l[k] = true ↔ ∃ i, ∃ hi : i < k, l[i].toList = l[k].toList := by
  rw [hasF, List.any_eq_true]
  constructor
  · rintro ⟨y, hy, hq⟩
    obtain ⟨i, hi, rfl⟩ := List.mem_iff_getElem.1 hy
    rw [List.length_take] at hi
    refine ⟨i, by omega, ?_⟩
    rw [List.getElem_take] at hq
    exact eq_of_beq hq
  · rintro ⟨i, hi, hq⟩
    refine ⟨l[i], ?_, by rw [hq]; simp⟩
    exact List.mem_take_iff_getElem.2 ⟨i, by omega, rfl⟩
theorem nodup_of (l : List ByteArray) (h : ∀ k (hk : k < l.length), hasF (l.take k) l[k] = false) : (strs l).Nodup := by
  rw [List.Nodup, List.pairwise_iff_getElem]
  intro i j hi hj hij
  simp only [strs, List.length_map] at hi hj
  simp only [strs, List.getElem_map]
  intro e
  have := h j hj
  rw [(hasF_take l j hj).2 ⟨i, hij, by simpa [toList_dataE] using e⟩] at this
  cases this
theorem not_nodup_of (l : List ByteArray) (k : Nat) (hk : k < l.length) (h : hasF (l.take k) l[k] = true) : ¬ (strs l).Nodup := by
  obtain ⟨i, hi, e⟩ := (hasF_take l k hk).1 h
  rw [List.Nodup, List.pairwise_iff_getElem]
  intro hp
  have := hp i k (by simp [strs]; omega) (by simpa [strs] using hk) hi
  simp only [strs, List.getElem_map] at this
  exact this (by simpa [toList_dataE] using e)
theorem SlS.take {w : World} {A : Option Addr} {n c : Nat} {l : List ByteArray} (hv : SlS w (.slice A n c) l) (k : Nat) (hk : k ≤ l.length) : SlS w (.slice A k c) (l.take k) := by
  obtain ⟨A', n', c', hs, hl, hn, hc, hr⟩ := hv
  cases hs
  rw [flatMap_len oneS 1 (fun _ => rfl)] at hl
  refine ⟨A, k, c, rfl, ?_, by omega, hc, fun h0 => ?_⟩
  · rw [flatMap_len oneS 1 (fun _ => rfl), List.length_take]
    omega
  · obtain ⟨b, off, hA, hb, hcell⟩ := hr (by omega)
    refine ⟨b, off, hA, hb, fun j u hu => hcell j u ?_⟩
    have e : ∀ m : List ByteArray, m.flatMap oneS = m.map Value.string := fun m => by
      induction m with
      | nil => rfl
      | cons x r ih => simp [List.flatMap_cons, oneS, ih]
    rw [e, List.getElem?_map, List.getElem?_take] at hu
    rw [e, List.getElem?_map]
    split at hu
    · exact hu
    · cases hu
set_option maxHeartbeats 2000000 in
theorem refLanguages_any (l : List ByteArray) (v : Value) (w : World) (hv : SlS w v l) : Calls Tryz.prog 214 #[v] w fun e w' => e = .returned (.int .i64 (langsF l)) ∧ Grew w w' := by
  have HV := Lib.hid hv
  obtain ⟨A, c, rfl, hlc, hc, hr⟩ := hv.open_
  unfold maxLen at hc
  have HR := Lib.hid hr
  clear hr hv
  by_cases h0 : l.length = 0
  · have hb : ((l.length : Int) == 0) = true := by simp [h0]
    have hC : langsF l = 9 := by simp [langsF, h0]
    rw [hC]
    go_enter Tryz.func214, Tryz.ntmps214
    go_wp2
    go_ret
    exact ⟨rfl, Grew.refl w⟩
  have hb : ((l.length : Int) == 0) = false := by rw [beq_eq_false_iff_ne]; omega
  by_cases h8 : 8 < l.length
  · have hb8 : (8 : Int) < (l.length : Int) := by omega
    have hC : langsF l = 8 := by simp [langsF, h0, h8]
    rw [hC]
    go_enter Tryz.func214, Tryz.ntmps214
    go_wp2
    go_ret
    exact ⟨rfl, Grew.refl w⟩
  have hb8 : decide ((8 : Int) < (l.length : Int)) = false := by simp; omega
  have hC : langsF l = if l.any (fun s => !isLangF s.data.toList) then 3 else if (strs l).Nodup then 0 else 6 := by simp [langsF, h0, h8]
  generalize langsF l = R at hC
  have HC := Lib.hid hC
  clear hC
  obtain ⟨b, off, rfl, hbk, hcell⟩ := HR.out (by omega)
  have HCELL := Lib.hid hcell
  clear hcell HR
  go_enter Tryz.func214, Tryz.ntmps214
  go_wp2
  go_loopg [3] 8 (fun gg s3 wr => ∃ k : Nat, k ≤ l.length ∧ l.length - k ≤ gg ∧ s3 = .int .i64 k ∧ wr = w ∧ Aside (∀ i (hi : i < l.length), i < k → isLangF l[i].data.toList = true))
  case atStart => exact ⟨0, by omega, by omega, rfl, rfl, fun i hi h2 => by omega⟩
  case round =>
    obtain ⟨k, hk, hgk, rfl, rfl, M⟩ := hrel
    by_cases hlt : k < l.length
    · have hltz : (k : Int) < (l.length : Int) := by omega
      have h0z : (0 : Int) ≤ (k : Int) := by omega
      have hcl := HCELL.out wr (Grew.refl wr) k hlt
      have kl := isLanguage_any l[k]
      cases hq : isLangF l[k].data.toList with
      | false =>
        have hA : l.any (fun s => !isLangF s.data.toList) = true := List.any_eq_true.2 ⟨l[k], List.getElem_mem hlt, by simp [hq]⟩
        have Hh := Lib.hid (HC.out.trans (if_pos hA))
        rw [hq] at kl
        have KL := Lib.hid kl
        generalize l[k] = y at hcl KL
        clear hA kl hq
        go_wp2_with (first | (go_at_call 75; refine (KL.out _).mono ?_; rintro e w1 ⟨rfl, rfl⟩))
        go_ret
        exact ⟨congrArg (fun z => Ending.returned (Value.int .i64 z)) Hh.out.symm, Grew.refl _⟩
      | true =>
        rw [hq] at kl
        have KL := Lib.hid kl
        have Hq := Lib.hid hq
        generalize l[k] = y at hcl KL
        clear kl hq
        go_wp2_with (first | (go_at_call 75; refine (KL.out _).mono ?_; rintro e w1 ⟨rfl, rfl⟩))
        go_roundg (l.length - (k + 1))
        case measure => omega
        case rel =>
          refine ⟨k + 1, by omega, by omega, by go_num, rfl, (show Aside _ from fun i hi h2 => ?_)⟩
          by_cases e : i = k
          · subst e; exact Hq.out
          · exact M.out i hi (by omega)
    · have hltz : ¬ (k : Int) < (l.length : Int) := by omega
      have hA : ¬ l.any (fun s => !isLangF s.data.toList) = true := by
        simp only [Bool.not_eq_true, List.any_eq_false]
        intro y hy
        obtain ⟨i, hi, rfl⟩ := List.mem_iff_getElem.1 hy
        simp [M.out i hi (by omega)]
      have Hh := Lib.hid (HC.out.trans (if_neg hA))
      clear hA M HC
      go_wp2
      go_loopg [4] 8 (fun gg s4 wx => ∃ m : Nat, m ≤ l.length ∧ l.length - m ≤ gg ∧ s4 = .int .i64 m ∧ Aside (Grew wr wx) ∧ Aside (∀ i (hi : i < l.length), i < m → hasF (l.take i) l[i] = false))
      case atStart => exact ⟨0, by omega, by omega, rfl, Grew.refl _, fun i hi h2 => by omega⟩
      case round =>
        obtain ⟨m, hm, hgm, rfl, BW, M⟩ := hrel
        by_cases hlm : m < l.length
        · have hlmz : (m : Int) < (l.length : Int) := by omega
          have h0m : (0 : Int) ≤ (m : Int) := by omega
          have hcm : (m : Int) ≤ (c : Int) := by omega
          have hcl := HCELL.out wr BW.out m hlm
          have kh : ∀ n, Calls Tryz.prog 215 #[.slice (some ⟨b, off, none⟩) m c, .string l[m]] (wr.drewN n) fun e w' => e = .returned (.bool (hasF (l.take m) l[m])) ∧ w' = wr.drewN n :=
            fun n => (has_any (l.take m) l[m] _ _ ((HV.out.mono (BW.out.drewN n)).take m hm)).mono (fun _ _ h => ⟨h.1, h.2.symm⟩)
          cases hq : hasF (l.take m) l[m] with
          | true =>
            have Hn := Lib.hid (Hh.out.trans (if_neg (not_nodup_of l m hlm hq)))
            rw [hq] at kh
            have KH := Lib.hid kh
            generalize l[m] = y at hcl KH
            clear kh hq Hh
            go_wp2
            go_quiet (first | (go_at_call 215; exact Calls.quiet_of_same (KH.out _)))
            go_wp2
            go_ret
            exact ⟨congrArg (fun z => Ending.returned (Value.int .i64 z)) Hn.out.symm, BW.out.drewN _⟩
          | false =>
            rw [hq] at kh
            have KH := Lib.hid kh
            have Hq := Lib.hid hq
            generalize l[m] = y at hcl KH
            clear kh hq
            go_wp2
            go_quiet (first | (go_at_call 215; exact Calls.quiet_of_same (KH.out _)))
            go_wp2
            go_roundg (l.length - (m + 1))
            case measure => omega
            case rel =>
              refine ⟨m + 1, by omega, by omega, by go_num, (show Aside _ from BW.out.drewN _), (show Aside _ from fun i hi h2 => ?_)⟩
              by_cases e : i = m
              · subst e; exact Hq.out
              · exact M.out i hi (by omega)
        · have hlmz : ¬ (m : Int) < (l.length : Int) := by omega
          have Hn := Lib.hid (Hh.out.trans (if_pos (nodup_of l (fun i hi => M.out i hi (by omega)))))
          clear Hh
          go_wp2
          go_ret
          exact ⟨congrArg (fun z => Ending.returned (Value.int .i64 z)) Hn.out.symm, BW.out⟩
end Go.Proofs.YtjaknioojpgkiaaGreatDoor

/- The reference implementation's functions on values, walked: they answer as the program's own. No condition but the sizes that a slice can have. -/
namespace Go.Proofs.YtjaknioojpgkiaaGreatDoor
open Go.RowKit

theorem less_cb : ∀ a b : List UInt8, Op.bytesLess a b = decide (Lib.compareBytes a b = -1)
  | [], [] => rfl
  | [], _ :: _ => rfl
  | _ :: _, [] => rfl
  | a :: x, b :: y => by
    have ih := less_cb x y
    rw [Op.bytesLess, Lib.compareBytes, ih]
    by_cases h1 : a < b
    · simp [h1]
    · by_cases h2 : b < a
      · have : ¬ a = b := fun e => h1 (by rw [e] at h2; exact absurd h2 (UInt8.lt_irrefl _))
        simp [h1, h2, this]
      · have : a = b := UInt8.le_antisymm (UInt8.not_lt.1 h2) (UInt8.not_lt.1 h1)
        simp [this]
/-- Whether one value stands before another. -/
def lessV (a b : Val) : Bool := decide (orderV a b < 0)
theorem lessV_ltV (a b : Val) : lessV a b = true ↔ ltV a b := by simp [lessV, orderV_lt]
set_option maxHeartbeats 1000000 in
theorem refLess_any (a b : Val) (w : World) : Calls Tryz.prog 47 #[a.agg, b.agg] w fun e w' => e = .returned (.bool (lessV a b)) ∧ Grew w w' := by
  have hL := lessV_ltV a b
  unfold Val.agg
  unfold ltV cbLt at hL
  obtain ⟨au, ae, al, at_⟩ := a
  obtain ⟨bu, be, bl, bt⟩ := b
  generalize lessV ⟨au, ae, al, at_⟩ ⟨bu, be, bl, bt⟩ = R at hL
  dsimp only at hL ⊢
  have HL := Lib.hid hL
  clear hL
  by_cases h1 : au = bu
  case neg =>
    have h1' : (au != bu) = true := by simpa using h1
    have Hr : RowKit.Hid (decide (au < bu) = R) := by
      show _ = _
      rw [Bool.eq_iff_iff, HL.out]
      simp [h1]
    clear h1
    go_enter Tryz.func47, Tryz.ntmps47
    go_wp2
    go_ret
    exact ⟨ret_bool Hr.out, ((Grew.refl w).alloc _).alloc _⟩
  subst h1
  have h1' : (au != au) = false := by simp
  by_cases h2 : ae = be
  case neg =>
    have h2' : (ae != be) = true := by simpa using h2
    have Hr : RowKit.Hid (decide (ae < be) = R) := by
      show _ = _
      rw [Bool.eq_iff_iff, HL.out]
      simp [h2]
    clear h2
    go_enter Tryz.func47, Tryz.ntmps47
    go_wp2
    go_ret
    exact ⟨ret_bool Hr.out, ((Grew.refl w).alloc _).alloc _⟩
  subst h2
  have h2' : (ae != ae) = false := by simp
  have Hr : RowKit.Hid (Op.bytesLess al.toList bl.toList = R) := by
    show _ = _
    rw [Bool.eq_iff_iff, HL.out, less_cb, toList_dataE, toList_dataE]
    simp
  go_enter Tryz.func47, Tryz.ntmps47
  go_wp2
  go_ret
  exact ⟨ret_bool Hr.out, ((Grew.refl w).alloc _).alloc _⟩
theorem hasF_inL (l : List ByteArray) (s : ByteArray) : hasF l s = inL l s := by
  unfold hasF inL
  congr 1
  funext y
  rw [Bool.eq_iff_iff, beq_iff_eq, beq_iff_eq]
  exact ⟨Eq.symm, Eq.symm⟩
set_option maxRecDepth 100000 in
set_option maxHeartbeats 4000000 in
theorem refCheck_any (l : List ByteArray) (vs : List Val) (lv vv : Value) (w : World) (hl : SlS w lv l) (hv : SlV w vv vs) :
    Calls Tryz.prog 163 #[lv, vv] w fun e w' => e = .returned (.tuple #[.int .i64 (checkF l vs).1, .int .i64 (checkF l vs).2]) ∧ Grew w w' := by
  have hla := refLanguages_any l lv w hl
  have HL := Lib.hid hl
  obtain ⟨A, c, rfl, hlc, hc, hr⟩ := hv.open_
  unfold maxLen at hc
  have HR := Lib.hid hr
  clear hr hv hl
  by_cases h0 : langsF l = 0
  case neg =>
    have hC : checkF l vs = (-1, 1) := by simp [checkF, h0]
    rw [hC]
    have hne : (langsF l != 0) = true := by simpa using h0
    generalize langsF l = r at hla hne
    have HLA := Lib.hid hla
    clear hla h0 hC
    go_enter Tryz.func163, Tryz.ntmps163
    go_wp2_with (first | (go_at_call 214; refine HLA.out.mono ?_; rintro e w1 ⟨rfl, hg⟩))
    go_ret2
    exact ⟨rfl, hg⟩
  rw [h0] at hla
  have HLA := Lib.hid hla
  by_cases h1 : 1024 < vs.length
  · have hC : checkF l vs = (-1, 8) := by simp [checkF, h0, h1]
    rw [hC]
    have h1' : (1024 : Int) < (vs.length : Int) := by omega
    clear hla h0 hC
    go_enter Tryz.func163, Tryz.ntmps163
    go_wp2_with (first | (go_at_call 214; refine HLA.out.mono ?_; rintro e w1 ⟨rfl, hg⟩))
    go_ret2
    exact ⟨rfl, hg⟩
  have h1' : ¬ (1024 : Int) < (vs.length : Int) := by omega
  have hC : checkF l vs = findFault (faultAt l vs) vs.length 0 := by simp [checkF, h0, h1]
  rw [hC]
  generalize hF : findFault (faultAt l vs) vs.length 0 = R
  have HF := Lib.hid hF
  clear hla h0 hC hF h1
  go_enter Tryz.func163, Tryz.ntmps163
  go_wp2_with (first | (go_at_call 214; refine HLA.out.mono ?_; rintro e w1 ⟨rfl, hg⟩))
  go_loopg [6] vs.length (fun gg s18 wr => ∃ kk : Nat, kk ≤ vs.length ∧ vs.length - kk ≤ gg ∧ s18 = .int .i64 kk ∧ Aside (Grew w wr) ∧ Aside (∀ i, i < kk → faultAt l vs i = 0))
  case atStart => exact ⟨0, Nat.zero_le _, by omega, rfl, hg, fun i h => absurd h (Nat.not_lt_zero _)⟩
  case round =>
    obtain ⟨kk, hkk, hgk, rfl, BW, M⟩ := hrel
    by_cases hlt : kk < vs.length
    case neg =>
      have hltz : ¬ (kk : Int) < (vs.length : Int) := by omega
      have Hm := Lib.hid (HF.out.symm.trans (findFault_miss _ _ (fun j hj => M.out j (by omega))))
      go_wp2
      go_ret2
      refine ⟨?_, BW.out⟩
      rw [Hm.out]
      rfl
    have hltz : (kk : Int) < (vs.length : Int) := by omega
    obtain ⟨b, off, rfl, hb, hcell⟩ := HR.out (by omega)
    have HCELL := Lib.hid hcell
    obtain ⟨c0, c1, c2, c3⟩ := hcell wr BW.out kk hlt
    have hfa := faultAt_in l vs kk hlt
    have hit : faultAt l vs kk ≠ 0 → R = ((kk : Int), faultAt l vs kk) := fun h => HF.out.symm.trans (findFault_hit _ _ kk hlt M.out h)
    rw [hfa] at hit
    have HFA := Lib.hid hfa
    clear hcell hfa
    generalize hy : vs[kk] = y at c0 c1 c2 c3 hit HFA
    clear hy
    obtain ⟨yu, ye, yl, yt⟩ := y
    dsimp only at c0 c1 c2 c3
    by_cases a1 : yu < 1
    · have hf : faultV l (prevV vs kk) ⟨yu, ye, yl, yt⟩ = 2 := by simp [faultV, a1]
      have Hr := Lib.hid (hit (by rw [hf]; decide))
      have Hf := Lib.hid hf
      clear hit hf
      go_wp2
      go_ret2
      refine ⟨?_, BW.out.alloc _⟩
      rw [Hr.out, Hf.out]
      rfl
    by_cases a2 : 1073741824 < yu
    · have hf : faultV l (prevV vs kk) ⟨yu, ye, yl, yt⟩ = 2 := by simp [faultV, a1, a2]
      have Hr := Lib.hid (hit (by rw [hf]; decide))
      have Hf := Lib.hid hf
      clear hit hf
      go_wp2
      go_ret2
      refine ⟨?_, BW.out.alloc _⟩
      rw [Hr.out, Hf.out]
      rfl
    by_cases a3 : isEl ye = false
    · have hf : faultV l (prevV vs kk) ⟨yu, ye, yl, yt⟩ = 2 := by simp [faultV, a1, a2, a3]
      have Hk := Lib.hid a3
      clear a3
      have Hr := Lib.hid (hit (by rw [hf]; decide))
      have Hf := Lib.hid hf
      clear hit hf
      go_wp2_with (first | (go_at_call 62; refine (isElement_f _ _ Hk.out).mono ?_; rintro e w2 ⟨rfl, rfl⟩))
      go_ret2
      refine ⟨?_, BW.out.alloc _⟩
      rw [Hr.out, Hf.out]
      rfl
    have a3' : isEl ye = true := by simpa using a3
    have Hk := Lib.hid a3'
    have Ha3 := Lib.hid a3
    clear a3 a3'
    by_cases a4 : inL l yl = false
    · have hf : faultV l (prevV vs kk) ⟨yu, ye, yl, yt⟩ = 10 := by simp [faultV, a1, a2, Ha3.out, a4]
      have HCT : RowKit.Hid (∀ W, Grew w W → Calls Tryz.prog 215 #[lv, .string yl] W fun e w' => e = .returned (.bool false) ∧ W = w') := fun W hW => by
        have h := has_any l yl lv W (HL.out.mono hW)
        rw [(hasF_inL l yl).trans a4] at h
        exact h
      clear a4
      have Hr := Lib.hid (hit (by rw [hf]; decide))
      have Hf := Lib.hid hf
      clear hit hf
      go_wp2_with (first | (go_at_call 62; refine (isElement_t _ _ Hk.out).mono ?_; rintro e w2 ⟨rfl, rfl⟩) | (go_at_call 215; refine (HCT.out _ (BW.out.alloc _)).mono ?_; rintro e w3 ⟨rfl, rfl⟩))
      go_ret2
      refine ⟨?_, BW.out.alloc _⟩
      rw [Hr.out, Hf.out]
      rfl
    have HCT : RowKit.Hid (∀ W, Grew w W → Calls Tryz.prog 215 #[lv, .string yl] W fun e w' => e = .returned (.bool true) ∧ W = w') := fun W hW => by
      have h := has_any l yl lv W (HL.out.mono hW)
      rw [(hasF_inL l yl).trans (show inL l yl = true by simpa using a4)] at h
      exact h
    have Ha4 := Lib.hid a4
    clear a4
    by_cases a5 : isTextF yt.data.toList = false
    · have hf : faultV l (prevV vs kk) ⟨yu, ye, yl, yt⟩ = 3 := by simp [faultV, a1, a2, Ha3.out, Ha4.out, a5]
      have HTX : RowKit.Hid (∀ W, Calls Tryz.prog 65 #[.string yt] W fun e w' => e = .returned (.bool false) ∧ Grew W w') := fun W => by
        have h := refIsText_any yt W
        rw [a5] at h
        exact h
      clear a5
      have Hr := Lib.hid (hit (by rw [hf]; decide))
      have Hf := Lib.hid hf
      clear hit hf
      go_wp2_with (first | (go_at_call 62; refine (isElement_t _ _ Hk.out).mono ?_; rintro e w2 ⟨rfl, rfl⟩) | (go_at_call 215; refine (HCT.out _ (BW.out.alloc _)).mono ?_; rintro e w3 ⟨rfl, rfl⟩) | (go_at_call 65; refine (HTX.out _).mono ?_; rintro e w4 ⟨rfl, hg4⟩))
      go_ret2
      refine ⟨?_, (BW.out.alloc _).trans hg4⟩
      rw [Hr.out, Hf.out]
      rfl
    have HTX : RowKit.Hid (∀ W, Calls Tryz.prog 65 #[.string yt] W fun e w' => e = .returned (.bool true) ∧ Grew W w') := fun W => by
      have h := refIsText_any yt W
      rw [show isTextF yt.data.toList = true by simpa using a5] at h
      exact h
    have Ha5 := Lib.hid a5
    clear a5
    rcases Nat.eq_zero_or_pos kk with hk0 | hkpos
    · subst hk0
      simp only [Nat.zero_mul, Nat.add_zero] at c0 c1 c2 c3
      have hf : faultAt l vs 0 = 0 := by rw [HFA.out]; simp [faultV, a1, a2, Ha3.out, Ha4.out, Ha5.out, prevV]
      have Hf := Lib.hid hf
      clear hit hf
      go_wp2_with (first | (go_at_call 62; refine (isElement_t _ _ Hk.out).mono ?_; rintro e w2 ⟨rfl, rfl⟩) | (go_at_call 215; refine (HCT.out _ (BW.out.alloc _)).mono ?_; rintro e w3 ⟨rfl, rfl⟩) | (go_at_call 65; refine (HTX.out _).mono ?_; rintro e w4 ⟨rfl, hg4⟩))
      go_quiet (fail)
      go_wp2
      go_roundg (vs.length - 1)
      case measure => omega
      case rel =>
        refine ⟨1, by omega, by omega, by go_num, (show Aside _ from ((BW.out.alloc _).trans hg4).drewN _), (show Aside _ from fun i hi => ?_)⟩
        obtain rfl : i = 0 := by omega
        exact Hf.out
    · have hp1 : kk - 1 < vs.length := by omega
      have hpv : prevV vs kk = some vs[kk - 1] := by rw [prevV, if_neg (by omega), List.getElem?_eq_getElem hp1]
      have hor := refLess_any vs[kk - 1] ⟨yu, ye, yl, yt⟩
      rw [hpv] at hit HFA
      have hkz : (0 : Int) < (kk : Int) := by omega
      have hki : (0 : Int) ≤ (kk : Int) - 1 := by omega
      have hki2 : (kk : Int) - 1 < (vs.length : Int) := by omega
      have hki3 : (1 : Int) ≤ (kk : Int) := by omega
      have hkt : ((kk : Int) - 1).toNat = kk - 1 := by omega
      have hzz : ∃ z, RowKit.Hid (vs[kk - 1] = z) := ⟨_, rfl⟩
      obtain ⟨⟨zu, ze, zl, zt⟩, hzz⟩ := hzz
      rw [hzz.out] at hor hit HFA
      clear hpv
      unfold Val.agg at hor
      dsimp only at hor
      cases a6' : lessV ⟨zu, ze, zl, zt⟩ ⟨yu, ye, yl, yt⟩
      · have a6 : 0 ≤ orderV ⟨zu, ze, zl, zt⟩ ⟨yu, ye, yl, yt⟩ := by simpa [lessV] using a6'
        have hf : faultV l (some ⟨zu, ze, zl, zt⟩) ⟨yu, ye, yl, yt⟩ = 5 := by simp [faultV, a1, a2, Ha3.out, Ha4.out, Ha5.out, a6]
        have Hr := Lib.hid (hit (by rw [hf]; decide))
        have Hf := Lib.hid hf
        rw [a6'] at hor
        clear a6 a6'
        have HOR := Lib.hid hor
        clear hit hf hor
        go_wp2_with (first | (go_at_call 62; refine (isElement_t _ _ Hk.out).mono ?_; rintro e w2 ⟨rfl, rfl⟩) | (go_at_call 215; refine (HCT.out _ (BW.out.alloc _)).mono ?_; rintro e w3 ⟨rfl, rfl⟩) | (go_at_call 65; refine (HTX.out _).mono ?_; rintro e w4 ⟨rfl, hg4⟩))
        have hgw : Grew w w4 := (BW.out.alloc _).trans hg4
        obtain ⟨d0, d1, d2, d3⟩ := HCELL.out w4 hgw (kk - 1) hp1
        rw [hzz.out] at d0 d1 d2 d3
        dsimp only at d0 d1 d2 d3
        have e0 : w4.cell? ⟨wr.heap.size, 0, none⟩ = some (.int .i64 yu) := (hg4.cell (p := ⟨wr.heap.size, 0, none⟩) (by simp)).trans (by simp)
        have e1 : w4.cell? ⟨wr.heap.size, 1, none⟩ = some (.int .i64 ye) := (hg4.cell (p := ⟨wr.heap.size, 1, none⟩) (by simp)).trans (by simp)
        have e2 : w4.cell? ⟨wr.heap.size, 2, none⟩ = some (.string yl) := (hg4.cell (p := ⟨wr.heap.size, 2, none⟩) (by simp)).trans (by simp)
        have e3 : w4.cell? ⟨wr.heap.size, 3, none⟩ = some (.string yt) := (hg4.cell (p := ⟨wr.heap.size, 3, none⟩) (by simp)).trans (by simp)
        clear HCELL HCT HTX
        have hwr : IntKind.i64.wrap ((kk : Int) - 1) = (kk : Int) - 1 := IntWalk.i64_in _ (by omega)
        refine region_still_tail 9 (by kernel_rfl) (by kernel_rfl) ?_
        simp only [List.take_succ_cons, List.take_zero, List.drop_succ_cons, List.drop_zero]
        iterate 9 still_step
        clear hwr
        refine wpStill_nil ?_
        go_wp2_with fail
        refine (HOR.out _).mono ?_
        rintro e w5 ⟨rfl, hg5⟩
        go_wp2
        go_ret2
        refine ⟨?_, hgw.drew.trans hg5⟩
        rw [Hr.out, Hf.out]
        rfl
      · have a6 : ¬ 0 ≤ orderV ⟨zu, ze, zl, zt⟩ ⟨yu, ye, yl, yt⟩ := by simpa [lessV] using a6'
        have hf : faultAt l vs kk = 0 := by rw [HFA.out]; simp [faultV, a1, a2, Ha3.out, Ha4.out, Ha5.out, a6]
        have Hf := Lib.hid hf
        rw [a6'] at hor
        clear a6 a6'
        have HOR := Lib.hid hor
        clear hit hf hor
        go_wp2_with (first | (go_at_call 62; refine (isElement_t _ _ Hk.out).mono ?_; rintro e w2 ⟨rfl, rfl⟩) | (go_at_call 215; refine (HCT.out _ (BW.out.alloc _)).mono ?_; rintro e w3 ⟨rfl, rfl⟩) | (go_at_call 65; refine (HTX.out _).mono ?_; rintro e w4 ⟨rfl, hg4⟩))
        have hgw : Grew w w4 := (BW.out.alloc _).trans hg4
        obtain ⟨d0, d1, d2, d3⟩ := HCELL.out w4 hgw (kk - 1) hp1
        rw [hzz.out] at d0 d1 d2 d3
        dsimp only at d0 d1 d2 d3
        have e0 : w4.cell? ⟨wr.heap.size, 0, none⟩ = some (.int .i64 yu) := (hg4.cell (p := ⟨wr.heap.size, 0, none⟩) (by simp)).trans (by simp)
        have e1 : w4.cell? ⟨wr.heap.size, 1, none⟩ = some (.int .i64 ye) := (hg4.cell (p := ⟨wr.heap.size, 1, none⟩) (by simp)).trans (by simp)
        have e2 : w4.cell? ⟨wr.heap.size, 2, none⟩ = some (.string yl) := (hg4.cell (p := ⟨wr.heap.size, 2, none⟩) (by simp)).trans (by simp)
        have e3 : w4.cell? ⟨wr.heap.size, 3, none⟩ = some (.string yt) := (hg4.cell (p := ⟨wr.heap.size, 3, none⟩) (by simp)).trans (by simp)
        clear HCELL HCT HTX
        have hwr : IntKind.i64.wrap ((kk : Int) - 1) = (kk : Int) - 1 := IntWalk.i64_in _ (by omega)
        refine region_still_tail 9 (by kernel_rfl) (by kernel_rfl) ?_
        simp only [List.take_succ_cons, List.take_zero, List.drop_succ_cons, List.drop_zero]
        iterate 9 still_step
        clear hwr
        refine wpStill_nil ?_
        go_wp2_with fail
        refine (HOR.out _).mono ?_
        rintro e w5 ⟨rfl, hg5⟩
        go_wp2
        go_roundg (vs.length - (kk + 1))
        case measure => omega
        case rel =>
          refine ⟨kk + 1, by omega, by omega, by go_num, (show Aside _ from hgw.drew.trans hg5), (show Aside _ from fun i hi => ?_)⟩
          by_cases e : i = kk
          · subst e; exact Hf.out
          · exact M.out i (by omega)
end Go.Proofs.YtjaknioojpgkiaaGreatDoor
