/- Lemmas on what the functions of the program and of the library compute: Eq, R6, RA1. The conditions stand at each. -/
import Derived.Test.YtjaknioojpgkiaaGreatDoorProg
import Derived.Test.YtjaknioojpgkiaaGreatDoorQ1
import Derived.Test.YtjaknioojpgkiaaGreatDoorQ10
import Derived.Test.YtjaknioojpgkiaaGreatDoorQ3
import Derived.Test.YtjaknioojpgkiaaGreatDoorQ2
/- slices.Equal at strings and values. No condition. -/
namespace Go.Proofs.YtjaknioojpgkiaaGreatDoor
open Go.RowKit
theorem toList_inj {x y : ByteArray} : x.toList = y.toList ↔ x = y := by
  rw [ByteArray.toList_eq, ByteArray.toList_eq]
  constructor
  · intro h
    obtain ⟨⟨a⟩⟩ := x
    obtain ⟨⟨b⟩⟩ := y
    simpa using h
  · exact fun h => by rw [h]

@[go_sem ↓] theorem eqlV (w : World) (x0 y0 : Int) (x1 y1 : Int) (x2 y2 : ByteArray) (x3 y3 : ByteArray) : (binOp .eql 29 (.agg #[.int .i64 x0, .int .i64 x1, .string x2, .string x3]) (.agg #[.int .i64 y0, .int .i64 y1, .string y2, .string y3])).run Tryz.prog w = .ok (.bool (decide ((⟨x0, x1, x2, x3⟩ : Val) = (⟨y0, y1, y2, y3⟩ : Val)))) w := by
  have hS : Tryz.prog.underlying 29 = some (.struct (Tryz.prog.fieldsOf 29)) := by kernel_rfl
  have hp : Tryz.prog.stoodInHeld 29 = false := by kernel_rfl
  rw [run_eql_struct, show (10000 : Nat) = 9999 + 1 from rfl, run_equalIn_agg w 9999 29 _ _ hS hp]
  simp only [Program.fieldsOf, Tryz.underlying29]
  go_simp
  try simp only [Val.mk.injEq]
  by_cases h0 : x0 = y0 <;> by_cases h1 : x1 = y1 <;> by_cases h2 : x2 = y2 <;> by_cases h3 : x3 = y3 <;> simp [*, toList_inj]

theorem neqV (w : World) (x0 y0 : Int) (x1 y1 : Int) (x2 y2 : ByteArray) (x3 y3 : ByteArray) : (binOp .neq 29 (.agg #[.int .i64 x0, .int .i64 x1, .string x2, .string x3]) (.agg #[.int .i64 y0, .int .i64 y1, .string y2, .string y3])).run Tryz.prog w = .ok (.bool (!decide ((⟨x0, x1, x2, x3⟩ : Val) = (⟨y0, y1, y2, y3⟩ : Val)))) w := by
  have hS : Tryz.prog.underlying 29 = some (.struct (Tryz.prog.fieldsOf 29)) := by kernel_rfl
  have hp : Tryz.prog.stoodInHeld 29 = false := by kernel_rfl
  rw [run_neq_struct, show (10000 : Nat) = 9999 + 1 from rfl, run_equalIn_agg w 9999 29 _ _ hS hp]
  simp only [Program.fieldsOf, Tryz.underlying29]
  go_simp
  try simp only [Val.mk.injEq]
  by_cases h0 : x0 = y0 <;> by_cases h1 : x1 = y1 <;> by_cases h2 : x2 = y2 <;> by_cases h3 : x3 = y3 <;> simp [*, toList_inj]
attribute [go_sem ↓] neqV

set_option maxHeartbeats 2000000 in
/-- slices.Equal at Val. -/
theorem equalV (l m : List Val) (v u : Value) (w : World) (hv : SlV w v l) (hu : SlV w u m) :
    Calls Tryz.prog 29 #[v, u] w fun e w' => e = .returned (.bool (decide (l = m))) ∧ Grew w w' := by
  obtain ⟨A, c, rfl, hlc, hc, hr⟩ := hv.open_
  obtain ⟨A', c', rfl, hlc', hc', hr'⟩ := hu.open_
  unfold maxLen at hc hc'
  have HR := Lib.hid hr
  have HR' := Lib.hid hr'
  clear hr hr' hv hu
  by_cases hl : l.length = m.length
  case neg =>
    have hd : decide (l = m) = false := by rw [decide_eq_false_iff_not]; exact fun h => hl (by rw [h])
    rw [hd]
    have hne : ((l.length : Int) != (m.length : Int)) = true := by rw [bne_iff_ne]; omega
    clear hl hd
    go_enter Tryz.func29, Tryz.ntmps29
    go_wp2
    go_ret
    exact ⟨rfl, Grew.refl w⟩
  have hne : ((l.length : Int) != (m.length : Int)) = false := by rw [bne_eq_false_iff_eq]; omega
  generalize hD : decide (l = m) = D
  have HD := Lib.hid hD
  have HL := Lib.hid hl
  clear hD hl
  go_enter Tryz.func29, Tryz.ntmps29
  go_wp2
  go_loopg [5, 13] l.length (fun gg _ s wr => ∃ kk : Nat, kk ≤ l.length ∧ l.length - kk ≤ gg ∧ s = .int .i64 kk ∧ Aside (Grew w wr) ∧ Aside (l.take kk = m.take kk))
  case atStart => exact ⟨0, Nat.zero_le _, by omega, rfl, Grew.refl w, rfl⟩
  case round =>
    obtain ⟨kk, hkk, hg, rfl, BW, M⟩ := hrel
    by_cases hlt : kk < l.length
    · have hlt2 : kk < m.length := by have := HL.out; omega
      have hltz : (kk : Int) < (l.length : Int) := by omega
      have hltz2 : (kk : Int) < (m.length : Int) := by omega
      obtain ⟨b, off, rfl, hb, hcell⟩ := HR.out (by omega)
      obtain ⟨b', off', rfl, hb', hcell'⟩ := HR'.out (by omega)
      obtain ⟨c0, c1, c2, c3⟩ := hcell wr BW.out kk hlt
      obtain ⟨d0, d1, d2, d3⟩ := hcell' wr BW.out kk hlt2
      clear hcell hcell'
      have Hstep : RowKit.Hid (l[kk] = m[kk] → l.take (kk + 1) = m.take (kk + 1)) := fun h => by rw [List.take_succ_eq_append_getElem hlt, List.take_succ_eq_append_getElem hlt2, M.out, h]
      have Hbad : RowKit.Hid (l[kk] ≠ m[kk] → D = false) := fun h => by
        rw [← HD.out, decide_eq_false_iff_not]
        exact fun e => h (by simp [e])
      generalize l[kk] = x at c0 c1 c2 c3 Hstep Hbad
      generalize m[kk] = y at d0 d1 d2 d3 Hstep Hbad
      by_cases hxy : x = y
      · have Hs := Lib.hid (Hstep.out hxy)
        subst hxy
        clear Hstep Hbad
        obtain ⟨x0, x1, x2, x3⟩ := x
        dsimp only at c0 c1 c2 c3 d0 d1 d2 d3
        go_wp2
        go_quiet (fail)
        go_wp2
        go_roundg (l.length - (kk + 1))
        case measure => omega
        case rel => exact ⟨kk + 1, by omega, by omega, by go_num, (show Aside _ from BW.out.drewN _), (show Aside _ from Hs.out)⟩
      · have Hs := Lib.hid (Hbad.out hxy)
        have hq0 := Lib.hid hxy
        clear hxy Hstep Hbad
        obtain ⟨x0, x1, x2, x3⟩ := x
        obtain ⟨y0, y1, y2, y3⟩ := y
        dsimp only at c0 c1 c2 c3 d0 d1 d2 d3
        have hq1 : (!decide (x0 = y0) || (!decide (x1 = y1) || (!decide (x2 = y2) || (!decide (x3 = y3))))) = true := by
          have h := hq0.out
          simp only [Val.mk.injEq] at h
          simp
          by_cases g0 : x0 = y0 <;> by_cases g1 : x1 = y1 <;> by_cases g2 : x2 = y2 <;> by_cases g3 : x3 = y3 <;> simp_all
        clear hq0
        go_wp2
        go_quiet (fail)
        go_wp2
        go_ret
        exact ⟨ret_bool Hs.out.symm, BW.out.drewN _⟩
    · have hltz : ¬ (kk : Int) < (l.length : Int) := by omega
      have Hs : RowKit.Hid (D = true) := by
        have h := M.out
        rw [List.take_of_length_le (by omega), List.take_of_length_le (by have := HL.out; omega)] at h
        show D = true
        rw [← HD.out, decide_eq_true_iff]
        exact h
      go_wp2
      go_ret
      exact ⟨ret_bool Hs.out.symm, BW.out⟩

end Go.Proofs.YtjaknioojpgkiaaGreatDoor

/- The reference implementation's Get, Of and Same, walked: they answer as the program's own. No condition but the sizes that a slice can have. -/
namespace Go.Proofs.YtjaknioojpgkiaaGreatDoor
open Go.RowKit

theorem getF_hit (vs : List Val) (u n : Int) (lang : ByteArray) (k : Nat) (hk : k < vs.length) (h : getP u n lang vs[k] = true) (hb : ∀ i (hi : i < vs.length), i < k → getP u n lang vs[i] = false) : getF vs u n lang = some vs[k].text := by
  have hf : vs.find? (getP u n lang) = some vs[k] := List.find?_eq_some_iff_getElem.2 ⟨h, k, hk, rfl, fun j hj => by simpa using hb j (by omega) hj⟩
  simp [getF, hf]
theorem getF_miss (vs : List Val) (u n : Int) (lang : ByteArray) (hb : ∀ i (hi : i < vs.length), getP u n lang vs[i] = false) : getF vs u n lang = none := by
  simp only [getF, Option.map_eq_none_iff, List.find?_eq_none]
  intro x hx
  obtain ⟨i, hi, rfl⟩ := List.mem_iff_getElem.1 hx
  simp [hb i hi]
set_option maxHeartbeats 2000000 in
theorem refGet_any (vs : List Val) (u n : Int) (lang : ByteArray) (v : Value) (w : World) (hv : SlV w v vs) :
    Calls Tryz.prog 157 #[v, .int .i64 u, .int .i64 n, .string lang] w fun e w' => e = .returned (.tuple #[.string (optS (getF vs u n lang)), .bool (getF vs u n lang).isSome]) ∧ Grew w w' := by
  obtain ⟨A, c, rfl, hlc, hc, hr⟩ := hv.open_
  unfold maxLen at hc
  have HR := Lib.hid hr
  clear hr hv
  have HH := Lib.hid (getF_hit vs u n lang)
  have HM := Lib.hid (getF_miss vs u n lang)
  generalize getF vs u n lang = R at HH HM ⊢
  go_enter Tryz.func157, Tryz.ntmps157
  go_wp2
  go_loopg [10] vs.length (fun gg s10 wr => ∃ k : Nat, k ≤ vs.length ∧ vs.length - k ≤ gg ∧ s10 = .int .i64 k ∧ Aside (Grew w wr) ∧ Aside (∀ i (hi : i < vs.length), i < k → getP u n lang vs[i] = false))
  case atStart => exact ⟨0, by omega, by omega, rfl, Grew.refl w, fun i hi h2 => by omega⟩
  case round =>
    obtain ⟨k, hk, hgk, rfl, BW, M⟩ := hrel
    by_cases hlt : k < vs.length
    · have hltz : (k : Int) < (vs.length : Int) := by omega
      have h0z : (0 : Int) ≤ (k : Int) := by omega
      obtain ⟨b, off, rfl, hb, hcell⟩ := HR.out (by omega)
      obtain ⟨c0, c1, c2, c3⟩ := hcell wr BW.out k hlt
      have Hy := Lib.hid (fun h => HH.out k hlt h M.out)
      have Hz : RowKit.Hid (getP u n lang vs[k] = false → ∀ i (hi : i < vs.length), i < k + 1 → getP u n lang vs[i] = false) := fun h i hi h2 => by
        by_cases e : i = k
        · subst e; exact h
        · exact M.out i hi (by omega)
      clear hcell
      generalize vs[k] = y at c0 c1 c2 c3 Hy Hz
      obtain ⟨yu, ye, yl, yt⟩ := y
      dsimp only at c0 c1 c2 c3 Hy
      have HG : RowKit.Hid (getP u n lang ⟨yu, ye, yl, yt⟩ = (yu == u && (ye == n && (yl.toList == lang.toList)))) := rfl
      generalize getP u n lang ⟨yu, ye, yl, yt⟩ = q at Hy Hz HG
      cases a1 : (yu == u) with
      | false =>
        rw [a1] at HG
        obtain rfl : q = false := HG.out
        go_wp2
        go_roundg (vs.length - (k + 1))
        case measure => omega
        case rel => exact ⟨k + 1, by omega, by omega, by go_num, (show Aside _ from BW.out.alloc _), (show Aside _ from Hz.out (by first | rfl | trivial))⟩
      | true =>
        rw [a1] at HG
        cases a2 : (ye == n) with
        | false =>
          rw [a2] at HG
          obtain rfl : q = false := HG.out
          go_wp2
          go_roundg (vs.length - (k + 1))
          case measure => omega
          case rel => exact ⟨k + 1, by omega, by omega, by go_num, (show Aside _ from BW.out.alloc _), (show Aside _ from Hz.out (by first | rfl | trivial))⟩
        | true =>
          rw [a2] at HG
          cases a3 : (yl.toList == lang.toList) with
          | false =>
            rw [a3] at HG
            obtain rfl : q = false := HG.out
            go_wp2
            go_roundg (vs.length - (k + 1))
            case measure => omega
            case rel => exact ⟨k + 1, by omega, by omega, by go_num, (show Aside _ from BW.out.alloc _), (show Aside _ from Hz.out (by first | rfl | trivial))⟩
          | true =>
            rw [a3] at HG
            obtain rfl : q = true := HG.out
            have Hr := Lib.hid (Hy.out rfl)
            clear Hy Hz HG
            go_wp2
            go_ret2
            refine ⟨?_, BW.out.alloc _⟩
            rw [Hr.out]
            rfl
    · have hltz : ¬ (k : Int) < (vs.length : Int) := by omega
      have Hr := Lib.hid (HM.out (fun i hi => M.out i hi (by omega)))
      go_wp2
      go_ret2
      refine ⟨?_, BW.out⟩
      rw [Hr.out]
      rfl
set_option maxHeartbeats 2000000 in
/-- The reference implementation's equality of lists. -/
theorem refSame_any (l m : List Val) (v u : Value) (w : World) (hv : SlV w v l) (hu : SlV w u m) :
    Calls Tryz.prog 21 #[v, u] w fun e w' => e = .returned (.bool (decide (l = m))) ∧ Grew w w' := by
  obtain ⟨A, c, rfl, hlc, hc, hr⟩ := hv.open_
  obtain ⟨A', c', rfl, hlc', hc', hr'⟩ := hu.open_
  unfold maxLen at hc hc'
  have HR := Lib.hid hr
  have HR' := Lib.hid hr'
  clear hr hr' hv hu
  by_cases hl : l.length = m.length
  case neg =>
    have hd : decide (l = m) = false := by rw [decide_eq_false_iff_not]; exact fun h => hl (by rw [h])
    rw [hd]
    have hne : ((l.length : Int) != (m.length : Int)) = true := by rw [bne_iff_ne]; omega
    clear hl hd
    go_enter Tryz.func21, Tryz.ntmps21
    go_wp2
    go_ret
    exact ⟨rfl, Grew.refl w⟩
  have hne : ((l.length : Int) != (m.length : Int)) = false := by rw [bne_eq_false_iff_eq]; omega
  generalize hD : decide (l = m) = D
  have HD := Lib.hid hD
  have HL := Lib.hid hl
  clear hD hl
  go_enter Tryz.func21, Tryz.ntmps21
  go_wp2
  go_loopg [5] l.length (fun gg s wr => ∃ kk : Nat, kk ≤ l.length ∧ l.length - kk ≤ gg ∧ s = .int .i64 kk ∧ Aside (Grew w wr) ∧ Aside (l.take kk = m.take kk))
  case atStart => exact ⟨0, Nat.zero_le _, by omega, rfl, Grew.refl w, rfl⟩
  case round =>
    obtain ⟨kk, hkk, hg, rfl, BW, M⟩ := hrel
    by_cases hlt : kk < l.length
    · have hlt2 : kk < m.length := by have := HL.out; omega
      have hltz : (kk : Int) < (l.length : Int) := by omega
      have hltz2 : (kk : Int) < (m.length : Int) := by omega
      obtain ⟨b, off, rfl, hb, hcell⟩ := HR.out (by omega)
      obtain ⟨b', off', rfl, hb', hcell'⟩ := HR'.out (by omega)
      obtain ⟨c0, c1, c2, c3⟩ := hcell wr BW.out kk hlt
      obtain ⟨d0, d1, d2, d3⟩ := hcell' wr BW.out kk hlt2
      clear hcell hcell'
      have Hstep : RowKit.Hid (l[kk] = m[kk] → l.take (kk + 1) = m.take (kk + 1)) := fun h => by rw [List.take_succ_eq_append_getElem hlt, List.take_succ_eq_append_getElem hlt2, M.out, h]
      have Hbad : RowKit.Hid (l[kk] ≠ m[kk] → D = false) := fun h => by
        rw [← HD.out, decide_eq_false_iff_not]
        exact fun e => h (by simp [e])
      generalize l[kk] = x at c0 c1 c2 c3 Hstep Hbad
      generalize m[kk] = y at d0 d1 d2 d3 Hstep Hbad
      by_cases hxy : x = y
      · have Hs := Lib.hid (Hstep.out hxy)
        subst hxy
        clear Hstep Hbad
        obtain ⟨x0, x1, x2, x3⟩ := x
        dsimp only at c0 c1 c2 c3 d0 d1 d2 d3
        go_wp2
        go_quiet (fail)
        go_wp2
        go_roundg (l.length - (kk + 1))
        case measure => omega
        case rel => exact ⟨kk + 1, by omega, by omega, by go_num, (show Aside _ from BW.out.drewN _), (show Aside _ from Hs.out)⟩
      · have Hs := Lib.hid (Hbad.out hxy)
        have hq0 := Lib.hid hxy
        clear hxy Hstep Hbad
        obtain ⟨x0, x1, x2, x3⟩ := x
        obtain ⟨y0, y1, y2, y3⟩ := y
        dsimp only at c0 c1 c2 c3 d0 d1 d2 d3
        have hq1 : (!decide (x0 = y0) || (!decide (x1 = y1) || (!decide (x2 = y2) || (!decide (x3 = y3))))) = true := by
          have h := hq0.out
          simp only [Val.mk.injEq] at h
          simp
          by_cases g0 : x0 = y0 <;> by_cases g1 : x1 = y1 <;> by_cases g2 : x2 = y2 <;> by_cases g3 : x3 = y3 <;> simp_all
        clear hq0
        go_wp2
        go_quiet (fail)
        go_wp2
        go_ret
        exact ⟨ret_bool Hs.out.symm, BW.out.drewN _⟩
    · have hltz : ¬ (kk : Int) < (l.length : Int) := by omega
      have Hs : RowKit.Hid (D = true) := by
        have h := M.out
        rw [List.take_of_length_le (by omega), List.take_of_length_le (by have := HL.out; omega)] at h
        show D = true
        rw [← HD.out, decide_eq_true_iff]
        exact h
      go_wp2
      go_ret
      exact ⟨ret_bool Hs.out.symm, BW.out⟩

end Go.Proofs.YtjaknioojpgkiaaGreatDoor

/- The reference's small functions on names and spans, walked. No condition. -/
namespace Go.Proofs.YtjaknioojpgkiaaGreatDoor
open Go.RowKit

theorem occ2 (l : List UInt8) (j : Nat) : Lib.occAt l [32, 32] j = true ↔ l[j]? = some 32 ∧ l[j + 1]? = some 32 := by
  unfold Lib.occAt
  cases h : l.drop j with
  | nil =>
    have h1 : l[j]? = none := by rw [List.getElem?_eq_none_iff]; have := congrArg List.length h; simp at this; omega
    simp [h1]
  | cons a t =>
    have h1 : l[j]? = some a := by have := congrArg (·[0]?) h; simpa using this
    have h2 : l[j + 1]? = t[0]? := by have := congrArg (·[1]?) h; simpa using this
    rw [h1, h2]
    cases t with
    | nil => simp [List.isPrefixOf]
    | cons b u =>
      simp only [List.isPrefixOf, Bool.and_true, Bool.and_eq_true, beq_iff_eq, List.getElem?_cons_zero, Option.some.injEq]
      exact ⟨fun ⟨x, y⟩ => ⟨x.symm, y.symm⟩, fun ⟨x, y⟩ => ⟨x.symm, y.symm⟩⟩
def okB (l : List UInt8) (i : Nat) : Prop := ∀ c, l[i]? = some c → 32 ≤ c.toNat ∧ c.toNat ≤ 126 ∧ ¬ (0 < i ∧ c = 32 ∧ l[i - 1]? = some 32)
theorem name_rest (l : List UInt8) : (!Lib.contains l [32, 32] && allIn 32 126 l) = true ↔ ∀ i, i < l.length → okB l i := by
  unfold Lib.contains allIn
  rw [Bool.and_eq_true, Bool.not_eq_true', decide_eq_false_iff_not, List.all_eq_true]
  constructor
  · rintro ⟨h1, h2⟩ i hi c hc
    have hm := h2 c (List.mem_of_getElem? hc)
    rw [Bool.and_eq_true, decide_eq_true_eq, decide_eq_true_eq] at hm
    refine ⟨hm.1, hm.2, ?_⟩
    rintro ⟨h3, rfl, h5⟩
    rcases Lib.index_spec l [32, 32] with ⟨_, h6⟩ | ⟨j, h6, _⟩
    · have := h6 (i - 1) (by omega)
      rw [(occ2 l (i - 1)).2 ⟨h5, by rw [Nat.sub_add_cancel h3]; exact hc⟩] at this
      cases this
    · rw [h6] at h1; omega
  · intro h
    refine ⟨?_, fun c hc => ?_⟩
    · rcases Lib.index_spec l [32, 32] with ⟨h6, _⟩ | ⟨j, h6, h7, h8, _⟩
      · omega
      · obtain ⟨h9, h10⟩ := (occ2 l j).1 h8
        have hj : j + 1 < l.length := (List.getElem?_eq_some_iff.1 h10).1
        exact absurd ⟨by omega, rfl, by simpa using h9⟩ (h (j + 1) hj 32 h10).2.2
    · obtain ⟨i, hi, rfl⟩ := List.mem_iff_getElem.1 hc
      have := h i hi l[i] (List.getElem?_eq_getElem hi)
      rw [Bool.and_eq_true, decide_eq_true_eq, decide_eq_true_eq]
      exact ⟨this.1, this.2.1⟩
theorem data_at (s : ByteArray) (k : Nat) (h : k < s.size) : s.data.toList[k]? = some s[k] := by
  rw [List.getElem?_eq_getElem (by rw [size_data]; exact h)]; rfl
theorem eq32 (c : UInt8) : c = 32 ↔ (c.toNat : Int) = 32 := by
  rw [← UInt8.toNat_inj]
  have h2 : (32 : UInt8).toNat = 32 := rfl
  omega
set_option maxHeartbeats 2000000 in
theorem refName (s : ByteArray) (w : World) : Calls Tryz.prog 245 #[.string s] w fun e w' => e = .returned (.bool (nameF s.data.toList)) ∧ Grew w w' := by
  have hsd := size_data s
  by_cases h0 : s.size < 1
  · have hN : nameF s.data.toList = false := by simp only [nameF, hsd]; rw [decide_eq_false (by omega)]; rfl
    rw [hN]
    have h0' : (s.size : Int) < 1 := by omega
    clear hsd hN
    go_enter Tryz.func245, Tryz.ntmps245
    go_wp2
    go_ret
    exact ⟨rfl, Grew.refl w⟩
  have h0' : decide ((s.size : Int) < 1) = false := by simp; omega
  by_cases h1 : 64 < s.size
  · have hN : nameF s.data.toList = false := by simp only [nameF, hsd]; rw [decide_eq_false (by omega)]; rfl
    rw [hN]
    have h1' : (64 : Int) < (s.size : Int) := by omega
    clear hsd hN
    go_enter Tryz.func245, Tryz.ntmps245
    go_wp2
    go_ret
    exact ⟨rfl, Grew.refl w⟩
  have h1' : decide ((64 : Int) < (s.size : Int)) = false := by simp; omega
  have hz0 : 0 < s.size := by omega
  have hs64 : s.size ≤ 64 := by omega
  have hz1 : s.size - 1 < s.size := by omega
  have hN : nameF s.data.toList = (!((s[0].toNat : Int) == 32) && (!((s[s.size - 1].toNat : Int) == 32) && (!Lib.contains s.data.toList [32, 32] && allIn 32 126 s.data.toList))) := by
    simp only [nameF, hsd, head_at s hz0, last_at s hz1, is32]
    rw [decide_eq_true (by omega)]
    rfl
  rw [hN]
  have hi1 : (0 : Int) ≤ (s.size : Int) - 1 := by omega
  have hi2 : (s.size : Int) - 1 < (s.size : Int) := by omega
  have hrest := name_rest s.data.toList
  rw [hsd] at hrest
  generalize (!Lib.contains s.data.toList [32, 32] && allIn 32 126 s.data.toList) = Q at hrest
  have HRE := Lib.hid hrest
  clear hsd hN h0 h1 hrest
  cases a1 : ((s[0].toNat : Int) == 32) with
  | true =>
    go_enter Tryz.func245, Tryz.ntmps245
    go_wp2
    go_ret
    exact ⟨rfl, Grew.refl w⟩
  | false =>
  cases a2 : ((s[s.size - 1].toNat : Int) == 32) with
  | true =>
    go_enter Tryz.func245, Tryz.ntmps245
    go_wp2
    go_ret
    exact ⟨rfl, Grew.refl w⟩
  | false =>
  go_enter Tryz.func245, Tryz.ntmps245
  go_wp2
  go_loop [3] (fun i => ∃ k : Nat, k ≤ s.size ∧ i = .int .i64 k ∧ Aside (∀ j, j < k → okB s.data.toList j)) (fun i => s.size - (intOf i).toNat)
  case atStart => exact ⟨0, by omega, rfl, (show Aside _ from fun j h => absurd h (Nat.not_lt_zero _))⟩
  case round =>
    obtain ⟨k, hk, rfl, M⟩ := hrel
    by_cases hlt : k < s.size
    case neg =>
      have hltz : ¬ (k : Int) < (s.size : Int) := by omega
      have hQ : Q = true := HRE.out.2 (fun i hi => M.out i (by omega))
      subst hQ
      go_wp2
      go_ret
      exact ⟨rfl, Grew.refl w⟩
    have hltz : (k : Int) < (s.size : Int) := by omega
    have h0z : (0 : Int) ≤ (k : Int) := by omega
    have HBAD : RowKit.Hid (¬ okB s.data.toList k → Q = false) := fun h => by
      rw [← Bool.not_eq_true, HRE.out]
      exact fun h2 => h (h2 k hlt)
    have HS : RowKit.Hid (okB s.data.toList k → ∀ j, j < k + 1 → okB s.data.toList j) := fun h j hj => by
      by_cases e : j = k
      · subst e; exact h
      · exact M.out j (by omega)
    have hck := data_at s k hlt
    have HOK : RowKit.Hid (okB s.data.toList k ↔ 32 ≤ (s[k].toNat : Int) ∧ (s[k].toNat : Int) ≤ 126 ∧ ¬ (0 < k ∧ (s[k].toNat : Int) = 32 ∧ ((s[k - 1]'(by omega)).toNat : Int) = 32)) := by
      have hp := data_at s (k - 1) (by omega)
      constructor
      · intro h
        have := h s[k] hck
        refine ⟨by omega, by omega, ?_⟩
        rintro ⟨h1, h2, h3⟩
        exact this.2.2 ⟨h1, (eq32 _).2 h2, by rw [hp]; congr 1; exact (eq32 _).2 h3⟩
      · rintro ⟨h1, h2, h3⟩ c hc
        rw [hck] at hc
        obtain rfl := Option.some.inj hc
        refine ⟨by omega, by omega, ?_⟩
        rintro ⟨h4, h5, h6⟩
        rw [hp] at h6
        exact h3 ⟨h4, (eq32 _).1 h5, (eq32 _).1 (Option.some.inj h6)⟩
    clear hck
    cases b1 : decide ((s[k].toNat : Int) < 32) with
    | true =>
      have hQ := HBAD.out (fun h => by have := (HOK.out.1 h).1; simp at b1; omega)
      subst hQ
      go_wp2
      go_ret
      exact ⟨rfl, Grew.refl w⟩
    | false =>
    cases b2 : decide ((126 : Int) < (s[k].toNat : Int)) with
    | true =>
      have hQ := HBAD.out (fun h => by have := (HOK.out.1 h).2.1; simp at b2; omega)
      subst hQ
      go_wp2
      go_ret
      exact ⟨rfl, Grew.refl w⟩
    | false =>
    rcases Nat.eq_zero_or_pos k with hk0 | hkpos
    · subst hk0
      have Hy := Lib.hid (HS.out (HOK.out.2 ⟨by simp at b1; omega, by simp at b2; omega, fun h => absurd h.1 (Nat.lt_irrefl _)⟩))
      clear HBAD HS HOK M
      go_wp2
      go_round
      case rel => exact ⟨1, by omega, by go_num, (show Aside _ from Hy.out)⟩
      case measure => simp [intOf]; omega
    have hkz : (0 : Int) < (k : Int) := by omega
    have hki : (0 : Int) ≤ (k : Int) - 1 := by omega
    have hki2 : (k : Int) - 1 < (s.size : Int) := by omega
    have hki3 : (1 : Int) ≤ (k : Int) := by omega
    have hkt : ((k : Int) - 1).toNat = k - 1 := by omega
    have hk1 : k - 1 < s.size := by omega
    cases b3 : ((s[k].toNat : Int) == 32) with
    | false =>
      have Hy := Lib.hid (HS.out (HOK.out.2 ⟨by simp at b1; omega, by simp at b2; omega, fun h => by have := h.2.1; simp at b3; omega⟩))
      clear HBAD HS HOK M
      go_wp2
      go_round
      case rel => exact ⟨k + 1, by omega, by go_num, (show Aside _ from Hy.out)⟩
      case measure => simp [intOf]; omega
    | true =>
    cases b4 : (((s[k - 1]'(by omega)).toNat : Int) == 32) with
    | false =>
      have Hy := Lib.hid (HS.out (HOK.out.2 ⟨by simp at b1; omega, by simp at b2; omega, fun h => by have := h.2.2; simp at b4; omega⟩))
      clear HBAD HS HOK M
      go_wp2
      go_round
      case rel => exact ⟨k + 1, by omega, by go_num, (show Aside _ from Hy.out)⟩
      case measure => simp [intOf]; omega
    | true =>
      have hQ := HBAD.out (fun h => (HOK.out.1 h).2.2 ⟨hkpos, by simpa using b3, by simpa using b4⟩)
      subst hQ
      clear HBAD HS HOK M
      go_wp2
      go_ret
      exact ⟨rfl, Grew.refl w⟩
end Go.Proofs.YtjaknioojpgkiaaGreatDoor
