/- The reference implementation's Get, Of and Same, walked: they answer as the program's own. No condition but the sizes that a slice can have. -/
import Derived.Test.YtiikniopjcnphaaGreatDoorE7
import Derived.Test.YtiikniopjcnphaaGreatDoorApp
import Derived.Test.YtiikniopjcnphaaGreatDoorEq
namespace Go.Proofs.YtiikniopjcnphaaGreatDoor
open Go.RowKit

theorem getF_hit (vs : List Val) (u n : Int) (lang : ByteArray) (k : Nat) (hk : k < vs.length) (h : getP u n lang vs[k] = true) (hb : ∀ i (hi : i < vs.length), i < k → getP u n lang vs[i] = false) : getF vs u n lang = some vs[k].text := by
  have hf : vs.find? (getP u n lang) = some vs[k] := List.find?_eq_some_iff_getElem.2 ⟨h, k, hk, rfl, fun j hj => by simpa using hb j (by omega) hj⟩
  simp [getF, hf]
theorem getF_miss (vs : List Val) (u n : Int) (lang : ByteArray) (hb : ∀ i (hi : i < vs.length), getP u n lang vs[i] = false) : getF vs u n lang = none := by
  simp only [getF, Option.map_eq_none_iff, List.find?_eq_none]
  intro x hx
  obtain ⟨i, hi, rfl⟩ := List.mem_iff_getElem.1 hx
  simp [hb i hi]
set_option maxHeartbeats 2000000 in
theorem refGet_any (vs : List Val) (u n : Int) (lang : ByteArray) (v : Value) (w : World) (hv : SlV w v vs) :
    Calls Tryz.prog 11 #[v, .int .i64 u, .int .i64 n, .string lang] w fun e w' => e = .returned (.tuple #[.string (optS (getF vs u n lang)), .bool (getF vs u n lang).isSome]) ∧ Grew w w' := by
  obtain ⟨A, c, rfl, hlc, hc, hr⟩ := hv.open_
  unfold maxLen at hc
  have HR := Lib.hid hr
  clear hr hv
  have HH := Lib.hid (getF_hit vs u n lang)
  have HM := Lib.hid (getF_miss vs u n lang)
  generalize getF vs u n lang = R at HH HM ⊢
  go_enter Tryz.func11, Tryz.ntmps11
  go_wp2
  go_loopg [10] vs.length (fun gg s10 wr => ∃ k : Nat, k ≤ vs.length ∧ vs.length - k ≤ gg ∧ s10 = .int .i64 k ∧ Aside (Grew w wr) ∧ Aside (∀ i (hi : i < vs.length), i < k → getP u n lang vs[i] = false))
  case atStart => exact ⟨0, by omega, by omega, rfl, Grew.refl w, fun i hi h2 => by omega⟩
  case round =>
    obtain ⟨k, hk, hgk, rfl, BW, M⟩ := hrel
    by_cases hlt : k < vs.length
    · have hltz : (k : Int) < (vs.length : Int) := by omega
      have h0z : (0 : Int) ≤ (k : Int) := by omega
      obtain ⟨b, off, rfl, hb, hcell⟩ := HR.out (by omega)
      obtain ⟨c0, c1, c2, c3⟩ := hcell wr BW.out k hlt
      have Hy := Lib.hid (fun h => HH.out k hlt h M.out)
      have Hz : RowKit.Hid (getP u n lang vs[k] = false → ∀ i (hi : i < vs.length), i < k + 1 → getP u n lang vs[i] = false) := fun h i hi h2 => by
        by_cases e : i = k
        · subst e; exact h
        · exact M.out i hi (by omega)
      clear hcell
      generalize vs[k] = y at c0 c1 c2 c3 Hy Hz
      obtain ⟨yu, ye, yl, yt⟩ := y
      dsimp only at c0 c1 c2 c3 Hy
      have HG : RowKit.Hid (getP u n lang ⟨yu, ye, yl, yt⟩ = (yu == u && (ye == n && (yl.toList == lang.toList)))) := rfl
      generalize getP u n lang ⟨yu, ye, yl, yt⟩ = q at Hy Hz HG
      cases a1 : (yu == u) with
      | false =>
        rw [a1] at HG
        obtain rfl : q = false := HG.out
        go_wp2
        go_roundg (vs.length - (k + 1))
        case measure => omega
        case rel => exact ⟨k + 1, by omega, by omega, by go_num, (show Aside _ from BW.out.alloc _), (show Aside _ from Hz.out (by first | rfl | trivial))⟩
      | true =>
        rw [a1] at HG
        cases a2 : (ye == n) with
        | false =>
          rw [a2] at HG
          obtain rfl : q = false := HG.out
          go_wp2
          go_roundg (vs.length - (k + 1))
          case measure => omega
          case rel => exact ⟨k + 1, by omega, by omega, by go_num, (show Aside _ from BW.out.alloc _), (show Aside _ from Hz.out (by first | rfl | trivial))⟩
        | true =>
          rw [a2] at HG
          cases a3 : (yl.toList == lang.toList) with
          | false =>
            rw [a3] at HG
            obtain rfl : q = false := HG.out
            go_wp2
            go_roundg (vs.length - (k + 1))
            case measure => omega
            case rel => exact ⟨k + 1, by omega, by omega, by go_num, (show Aside _ from BW.out.alloc _), (show Aside _ from Hz.out (by first | rfl | trivial))⟩
          | true =>
            rw [a3] at HG
            obtain rfl : q = true := HG.out
            have Hr := Lib.hid (Hy.out rfl)
            clear Hy Hz HG
            go_wp2
            go_ret2
            refine ⟨?_, BW.out.alloc _⟩
            rw [Hr.out]
            rfl
    · have hltz : ¬ (k : Int) < (vs.length : Int) := by omega
      have Hr := Lib.hid (HM.out (fun i hi => M.out i hi (by omega)))
      go_wp2
      go_ret2
      refine ⟨?_, BW.out⟩
      rw [Hr.out]
      rfl
theorem take_filterV (l : List Val) (p : Val → Bool) (k : Nat) (hk : k < l.length) : (l.take (k + 1)).filter p = (l.take k).filter p ++ (if p l[k] then [l[k]] else []) := by
  rw [List.take_succ_eq_append_getElem hk, List.filter_append]
  congr 1
  by_cases h : p l[k] = true
  · simp [h]
  · simp [h]
theorem take_filterV_len (l : List Val) (p : Val → Bool) (k : Nat) : ((l.take k).filter p).length ≤ l.length :=
  Nat.le_trans (List.length_filter_le _ _) (by rw [List.length_take]; omega)
set_option maxHeartbeats 2000000 in
theorem refOf_vals (vs : List Val) (u : Int) (v : Value) (w : World) (hv : SlV w v vs) (hb : vs.length * 48 + 48 ≤ 140737488355328) :
    Calls Tryz.prog 14 #[v, .int .i64 u] w fun e w' => ∃ v', e = .returned v' ∧ w'.ownsRow w.heap.size 32 4 v' (ofF vs u).length ((ofF vs u).flatMap Val.cells) ∧ Grew w w' := by
  obtain ⟨A, c, rfl, hlc, hc, hr⟩ := hv.open_
  unfold maxLen at hc
  have HR := Lib.hid hr
  clear hr hv
  obtain ⟨i0, hi, hz0, hz1, hz2⟩ := info_parts cinfoV
  unfold ofF
  generalize hp : (fun x : Val => !(x.unit != u)) = p
  have HP := Lib.hid hp
  clear hp
  go_enter Tryz.func14, Tryz.ntmps14
  go_wp2
  go_loopg [5, 6] vs.length (fun gg s5 s6 wr => ∃ k : Nat, k ≤ vs.length ∧ vs.length - k ≤ gg ∧ s6 = .int .i64 k ∧ Aside (wr.ownsRow w.heap.size 32 4 s5 ((vs.take k).filter p).length (((vs.take k).filter p).flatMap Val.cells)) ∧ Aside (Grew w wr))
  case atStart => exact ⟨0, by omega, by omega, rfl, (show Aside _ from World.ownsRow_nil _ _ _ _), Grew.refl w⟩
  case round =>
    obtain ⟨k, hk, hgk, rfl, OW, BW⟩ := hrel
    by_cases hlt : k < vs.length
    · have hltz : (k : Int) < (vs.length : Int) := by omega
      have h0z : (0 : Int) ≤ (k : Int) := by omega
      obtain ⟨b, off, rfl, hb, hcell⟩ := HR.out (by omega)
      obtain ⟨c0, c1, c2, c3⟩ := hcell wr BW.out k hlt
      have HT := Lib.hid (take_filterV vs p k hlt)
      have hlen := take_filterV_len vs p k
      have HQ : RowKit.Hid (p vs[k] = (vs[k].unit == u)) := by
        show _ = _
        rw [← HP.out]
        simp [bne]
      clear hcell
      generalize vs[k] = y at c0 c1 c2 c3 HT HQ
      cases a1 : (y.unit == u) with
      | false =>
        have hq := HQ.out
        rw [a1] at hq
        rw [hq] at HT
        obtain ⟨yu, ye, yl, yt⟩ := y
        dsimp only at c0 c1 c2 c3 a1
        clear hq HQ
        go_wp2
        go_roundg (vs.length - (k + 1))
        case measure => omega
        case rel =>
          refine ⟨k + 1, by omega, by omega, by go_num, ?_, BW⟩
          have := HT.out
          simp only [Bool.false_eq_true, if_false, List.append_nil] at this
          rw [this]
          exact OW
      | true =>
        have hq := HQ.out
        rw [a1] at hq
        rw [hq] at HT
        obtain ⟨yu, ye, yl, yt⟩ := y
        dsimp only at c0 c1 c2 c3 a1
        clear hq HQ
        go_wp2_with (at_builtin; refine app1 rfl _ _ 23 rfl w 32 i0 (.agg #[.int .i64 0, .int .i64 0, .string ⟨#[]⟩, .string ⟨#[]⟩]) 4 48 Tryz.underlying23 hi hz0 hz1 hz2 rfl (by omega) _ _ _ (by rfl) wr OW.out BW.out [.int .i64 yu, .int .i64 ye, .string yl, .string yt] rfl rfl rfl (by unfold maxLen; omega) (by omega) ?_; intro v8 w8 hown8 hg8)
        have OW8 : Aside _ := hown8
        have BW8 : Aside _ := hg8
        clear hown8 hg8
        go_wp2
        go_roundg (vs.length - (k + 1))
        case measure => omega
        case rel =>
          refine ⟨k + 1, by omega, by omega, by go_num, ?_, BW8⟩
          have := HT.out
          simp only [if_true] at this
          rw [this, List.flatMap_append, List.length_append]
          exact OW8
    · have hltz : ¬ (k : Int) < (vs.length : Int) := by omega
      have hT : vs.take k = vs := List.take_of_length_le (by omega)
      have HS := Lib.hid OW.out
      rw [hT] at HS
      clear hT
      go_wp2
      go_ret
      exact ⟨_, rfl, HS.out, BW.out⟩
set_option maxHeartbeats 2000000 in
/-- The reference implementation's equality of lists. -/
theorem refSame_any (l m : List Val) (v u : Value) (w : World) (hv : SlV w v l) (hu : SlV w u m) :
    Calls Tryz.prog 12 #[v, u] w fun e w' => e = .returned (.bool (decide (l = m))) ∧ Grew w w' := by
  obtain ⟨A, c, rfl, hlc, hc, hr⟩ := hv.open_
  obtain ⟨A', c', rfl, hlc', hc', hr'⟩ := hu.open_
  unfold maxLen at hc hc'
  have HR := Lib.hid hr
  have HR' := Lib.hid hr'
  clear hr hr' hv hu
  by_cases hl : l.length = m.length
  case neg =>
    have hd : decide (l = m) = false := by rw [decide_eq_false_iff_not]; exact fun h => hl (by rw [h])
    rw [hd]
    have hne : ((l.length : Int) != (m.length : Int)) = true := by rw [bne_iff_ne]; omega
    clear hl hd
    go_enter Tryz.func12, Tryz.ntmps12
    go_wp2
    go_ret
    exact ⟨rfl, Grew.refl w⟩
  have hne : ((l.length : Int) != (m.length : Int)) = false := by rw [bne_eq_false_iff_eq]; omega
  generalize hD : decide (l = m) = D
  have HD := Lib.hid hD
  have HL := Lib.hid hl
  clear hD hl
  go_enter Tryz.func12, Tryz.ntmps12
  go_wp2
  go_loopg [5] l.length (fun gg s wr => ∃ kk : Nat, kk ≤ l.length ∧ l.length - kk ≤ gg ∧ s = .int .i64 kk ∧ Aside (Grew w wr) ∧ Aside (l.take kk = m.take kk))
  case atStart => exact ⟨0, Nat.zero_le _, by omega, rfl, Grew.refl w, rfl⟩
  case round =>
    obtain ⟨kk, hkk, hg, rfl, BW, M⟩ := hrel
    by_cases hlt : kk < l.length
    · have hlt2 : kk < m.length := by have := HL.out; omega
      have hltz : (kk : Int) < (l.length : Int) := by omega
      have hltz2 : (kk : Int) < (m.length : Int) := by omega
      obtain ⟨b, off, rfl, hb, hcell⟩ := HR.out (by omega)
      obtain ⟨b', off', rfl, hb', hcell'⟩ := HR'.out (by omega)
      obtain ⟨c0, c1, c2, c3⟩ := hcell wr BW.out kk hlt
      obtain ⟨d0, d1, d2, d3⟩ := hcell' wr BW.out kk hlt2
      clear hcell hcell'
      have Hstep : RowKit.Hid (l[kk] = m[kk] → l.take (kk + 1) = m.take (kk + 1)) := fun h => by rw [List.take_succ_eq_append_getElem hlt, List.take_succ_eq_append_getElem hlt2, M.out, h]
      have Hbad : RowKit.Hid (l[kk] ≠ m[kk] → D = false) := fun h => by
        rw [← HD.out, decide_eq_false_iff_not]
        exact fun e => h (by simp [e])
      generalize l[kk] = x at c0 c1 c2 c3 Hstep Hbad
      generalize m[kk] = y at d0 d1 d2 d3 Hstep Hbad
      by_cases hxy : x = y
      · have Hs := Lib.hid (Hstep.out hxy)
        subst hxy
        clear Hstep Hbad
        obtain ⟨x0, x1, x2, x3⟩ := x
        dsimp only at c0 c1 c2 c3 d0 d1 d2 d3
        go_wp2
        go_quiet (fail)
        go_wp2
        go_roundg (l.length - (kk + 1))
        case measure => omega
        case rel => exact ⟨kk + 1, by omega, by omega, by go_num, (show Aside _ from BW.out.drewN _), (show Aside _ from Hs.out)⟩
      · have Hs := Lib.hid (Hbad.out hxy)
        have hq0 := Lib.hid hxy
        clear hxy Hstep Hbad
        obtain ⟨x0, x1, x2, x3⟩ := x
        obtain ⟨y0, y1, y2, y3⟩ := y
        dsimp only at c0 c1 c2 c3 d0 d1 d2 d3
        have hq1 : (!decide (x0 = y0) || (!decide (x1 = y1) || (!decide (x2 = y2) || (!decide (x3 = y3))))) = true := by
          have h := hq0.out
          simp only [Val.mk.injEq] at h
          simp
          by_cases g0 : x0 = y0 <;> by_cases g1 : x1 = y1 <;> by_cases g2 : x2 = y2 <;> by_cases g3 : x3 = y3 <;> simp_all
        clear hq0
        go_wp2
        go_quiet (fail)
        go_wp2
        go_ret
        exact ⟨ret_bool Hs.out.symm, BW.out.drewN _⟩
    · have hltz : ¬ (kk : Int) < (l.length : Int) := by omega
      have Hs : RowKit.Hid (D = true) := by
        have h := M.out
        rw [List.take_of_length_le (by omega), List.take_of_length_le (by have := HL.out; omega)] at h
        show D = true
        rw [← HD.out, decide_eq_true_iff]
        exact h
      go_wp2
      go_ret
      exact ⟨ret_bool Hs.out.symm, BW.out⟩

end Go.Proofs.YtiikniopjcnphaaGreatDoor
