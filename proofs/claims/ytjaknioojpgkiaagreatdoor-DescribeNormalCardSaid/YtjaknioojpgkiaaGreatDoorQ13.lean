/- Lemmas on what the functions of the program and of the library compute: Eq. The conditions stand at each. -/
import Derived.Test.YtjaknioojpgkiaaGreatDoorProg
import Derived.Test.YtjaknioojpgkiaaGreatDoorQ1
/- slices.Equal at strings and values. No condition. -/
namespace Go.Proofs.YtjaknioojpgkiaaGreatDoor
open Go.RowKit
theorem toList_inj {x y : ByteArray} : x.toList = y.toList ↔ x = y := by
  rw [ByteArray.toList_eq, ByteArray.toList_eq]
  constructor
  · intro h
    obtain ⟨⟨a⟩⟩ := x
    obtain ⟨⟨b⟩⟩ := y
    simpa using h
  · exact fun h => by rw [h]

@[go_sem ↓] theorem eqlV (w : World) (x0 y0 : Int) (x1 y1 : Int) (x2 y2 : ByteArray) (x3 y3 : ByteArray) : (binOp .eql 29 (.agg #[.int .i64 x0, .int .i64 x1, .string x2, .string x3]) (.agg #[.int .i64 y0, .int .i64 y1, .string y2, .string y3])).run Tryz.prog w = .ok (.bool (decide ((⟨x0, x1, x2, x3⟩ : Val) = (⟨y0, y1, y2, y3⟩ : Val)))) w := by
  have hS : Tryz.prog.underlying 29 = some (.struct (Tryz.prog.fieldsOf 29)) := by kernel_rfl
  have hp : Tryz.prog.stoodInHeld 29 = false := by kernel_rfl
  rw [run_eql_struct, show (10000 : Nat) = 9999 + 1 from rfl, run_equalIn_agg w 9999 29 _ _ hS hp]
  simp only [Program.fieldsOf, Tryz.underlying29]
  go_simp
  try simp only [Val.mk.injEq]
  by_cases h0 : x0 = y0 <;> by_cases h1 : x1 = y1 <;> by_cases h2 : x2 = y2 <;> by_cases h3 : x3 = y3 <;> simp [*, toList_inj]

theorem neqV (w : World) (x0 y0 : Int) (x1 y1 : Int) (x2 y2 : ByteArray) (x3 y3 : ByteArray) : (binOp .neq 29 (.agg #[.int .i64 x0, .int .i64 x1, .string x2, .string x3]) (.agg #[.int .i64 y0, .int .i64 y1, .string y2, .string y3])).run Tryz.prog w = .ok (.bool (!decide ((⟨x0, x1, x2, x3⟩ : Val) = (⟨y0, y1, y2, y3⟩ : Val)))) w := by
  have hS : Tryz.prog.underlying 29 = some (.struct (Tryz.prog.fieldsOf 29)) := by kernel_rfl
  have hp : Tryz.prog.stoodInHeld 29 = false := by kernel_rfl
  rw [run_neq_struct, show (10000 : Nat) = 9999 + 1 from rfl, run_equalIn_agg w 9999 29 _ _ hS hp]
  simp only [Program.fieldsOf, Tryz.underlying29]
  go_simp
  try simp only [Val.mk.injEq]
  by_cases h0 : x0 = y0 <;> by_cases h1 : x1 = y1 <;> by_cases h2 : x2 = y2 <;> by_cases h3 : x3 = y3 <;> simp [*, toList_inj]
attribute [go_sem ↓] neqV

set_option maxHeartbeats 2000000 in
/-- slices.Equal at Val. -/
theorem equalV (l m : List Val) (v u : Value) (w : World) (hv : SlV w v l) (hu : SlV w u m) :
    Calls Tryz.prog 29 #[v, u] w fun e w' => e = .returned (.bool (decide (l = m))) ∧ Grew w w' := by
  obtain ⟨A, c, rfl, hlc, hc, hr⟩ := hv.open_
  obtain ⟨A', c', rfl, hlc', hc', hr'⟩ := hu.open_
  unfold maxLen at hc hc'
  have HR := Lib.hid hr
  have HR' := Lib.hid hr'
  clear hr hr' hv hu
  by_cases hl : l.length = m.length
  case neg =>
    have hd : decide (l = m) = false := by rw [decide_eq_false_iff_not]; exact fun h => hl (by rw [h])
    rw [hd]
    have hne : ((l.length : Int) != (m.length : Int)) = true := by rw [bne_iff_ne]; omega
    clear hl hd
    go_enter Tryz.func29, Tryz.ntmps29
    go_wp2
    go_ret
    exact ⟨rfl, Grew.refl w⟩
  have hne : ((l.length : Int) != (m.length : Int)) = false := by rw [bne_eq_false_iff_eq]; omega
  generalize hD : decide (l = m) = D
  have HD := Lib.hid hD
  have HL := Lib.hid hl
  clear hD hl
  go_enter Tryz.func29, Tryz.ntmps29
  go_wp2
  go_loopg [5, 13] l.length (fun gg _ s wr => ∃ kk : Nat, kk ≤ l.length ∧ l.length - kk ≤ gg ∧ s = .int .i64 kk ∧ Aside (Grew w wr) ∧ Aside (l.take kk = m.take kk))
  case atStart => exact ⟨0, Nat.zero_le _, by omega, rfl, Grew.refl w, rfl⟩
  case round =>
    obtain ⟨kk, hkk, hg, rfl, BW, M⟩ := hrel
    by_cases hlt : kk < l.length
    · have hlt2 : kk < m.length := by have := HL.out; omega
      have hltz : (kk : Int) < (l.length : Int) := by omega
      have hltz2 : (kk : Int) < (m.length : Int) := by omega
      obtain ⟨b, off, rfl, hb, hcell⟩ := HR.out (by omega)
      obtain ⟨b', off', rfl, hb', hcell'⟩ := HR'.out (by omega)
      obtain ⟨c0, c1, c2, c3⟩ := hcell wr BW.out kk hlt
      obtain ⟨d0, d1, d2, d3⟩ := hcell' wr BW.out kk hlt2
      clear hcell hcell'
      have Hstep : RowKit.Hid (l[kk] = m[kk] → l.take (kk + 1) = m.take (kk + 1)) := fun h => by rw [List.take_succ_eq_append_getElem hlt, List.take_succ_eq_append_getElem hlt2, M.out, h]
      have Hbad : RowKit.Hid (l[kk] ≠ m[kk] → D = false) := fun h => by
        rw [← HD.out, decide_eq_false_iff_not]
        exact fun e => h (by simp [e])
      generalize l[kk] = x at c0 c1 c2 c3 Hstep Hbad
      generalize m[kk] = y at d0 d1 d2 d3 Hstep Hbad
      by_cases hxy : x = y
      · have Hs := Lib.hid (Hstep.out hxy)
        subst hxy
        clear Hstep Hbad
        obtain ⟨x0, x1, x2, x3⟩ := x
        dsimp only at c0 c1 c2 c3 d0 d1 d2 d3
        go_wp2
        go_quiet (fail)
        go_wp2
        go_roundg (l.length - (kk + 1))
        case measure => omega
        case rel => exact ⟨kk + 1, by omega, by omega, by go_num, (show Aside _ from BW.out.drewN _), (show Aside _ from Hs.out)⟩
      · have Hs := Lib.hid (Hbad.out hxy)
        have hq0 := Lib.hid hxy
        clear hxy Hstep Hbad
        obtain ⟨x0, x1, x2, x3⟩ := x
        obtain ⟨y0, y1, y2, y3⟩ := y
        dsimp only at c0 c1 c2 c3 d0 d1 d2 d3
        have hq1 : (!decide (x0 = y0) || (!decide (x1 = y1) || (!decide (x2 = y2) || (!decide (x3 = y3))))) = true := by
          have h := hq0.out
          simp only [Val.mk.injEq] at h
          simp
          by_cases g0 : x0 = y0 <;> by_cases g1 : x1 = y1 <;> by_cases g2 : x2 = y2 <;> by_cases g3 : x3 = y3 <;> simp_all
        clear hq0
        go_wp2
        go_quiet (fail)
        go_wp2
        go_ret
        exact ⟨ret_bool Hs.out.symm, BW.out.drewN _⟩
    · have hltz : ¬ (kk : Int) < (l.length : Int) := by omega
      have Hs : RowKit.Hid (D = true) := by
        have h := M.out
        rw [List.take_of_length_le (by omega), List.take_of_length_le (by have := HL.out; omega)] at h
        show D = true
        rw [← HD.out, decide_eq_true_iff]
        exact h
      go_wp2
      go_ret
      exact ⟨ret_bool Hs.out.symm, BW.out⟩

end Go.Proofs.YtjaknioojpgkiaaGreatDoor
