/- Lemmas on what the functions of the program and of the library compute: IdxR. The conditions stand at each. -/
import Derived.Test.YtfghbendiofbeaaGreatDoorProg
import Derived.Test.YtfghbendiofbeaaGreatDoorQ1
/- slices.IndexFunc at numbers, relations, authorities and branches. No condition but that the function that is handed over answers as p does. -/
namespace Go.Proofs.YtfghbendiofbeaaGreatDoor
open Go.RowKit

set_option maxHeartbeats 1000000 in
/-- slices.IndexFunc at Int. -/
theorem indexFuncI (l : List Int) (p : Int → Bool) (g : Nat) (lb : Array Value) (eg : ∀ args w, (callFunc g args).run Tryz.prog w = .ok (.enter g args) w) (v : Value) (w : World) (hv : SlI w v l)
    (hp : ∀ W x, Grew w W → x ∈ l → Calls Tryz.prog g (#[(.int .i64 x)] ++ lb) W fun e w' => e = .returned (.bool (p x)) ∧ Grew W w') :
    Calls Tryz.prog 76 #[v, .func (.func g) #[] lb] w fun e w' => e = .returned (.int .i64 (idxP p l)) ∧ Grew w w' := by
  obtain ⟨A, c, rfl, hlc, hc, hr⟩ := hv.open_
  unfold maxLen at hc
  have HR := Lib.hid hr
  have HP := Lib.hid hp
  clear hr hp hv
  go_enter Tryz.func76, Tryz.ntmps76
  go_wp2
  go_loopg [5, 8] l.length (fun gg _ s8 wr => ∃ kk : Nat, kk ≤ l.length ∧ l.length - kk ≤ gg ∧ s8 = .int .i64 kk ∧ Aside (Grew w wr) ∧ Aside (∀ i (hi : i < l.length), i < kk → p l[i] = false))
  case atStart => exact ⟨0, Nat.zero_le _, by omega, rfl, Grew.refl w, fun i hi h => absurd h (Nat.not_lt_zero _)⟩
  case round =>
    obtain ⟨kk, hkk, hg, rfl, BW, M⟩ := hrel
    by_cases hlt : kk < l.length
    · obtain ⟨b, off, rfl, hb, hcell⟩ := HR.out (by omega)
      obtain c0 := hcell wr BW.out kk hlt
      have hcall := HP.out wr l[kk] BW.out (List.getElem_mem hlt)
      have hltz : (kk : Int) < (l.length : Int) := by omega
      clear hcell
      generalize hy : l[kk] = y at c0 hcall
      have B : Aside (l[kk] = y) := hy
      clear hy
      cases hq : p y with
      | true =>
        rw [hq] at hcall
        go_wp2_with (go_at_fn g; refine hcall.mono ?_; rintro e w' ⟨rfl, hb'⟩)
        go_ret
        refine ⟨?_, BW.out.trans hb'⟩
        rw [idxP_hit p l kk hlt (by rw [B.out]; exact hq) M.out]
        rfl
      | false =>
        rw [hq] at hcall
        go_wp2_with (go_at_fn g; refine hcall.mono ?_; rintro e w' ⟨rfl, hb'⟩)
        go_roundg (l.length - (kk + 1))
        case measure => omega
        case rel =>
          refine ⟨kk + 1, by omega, by omega, by go_num, BW.out.trans hb', (show Aside _ from fun i hi h => ?_)⟩
          by_cases e : i = kk
          · subst e
            rw [B.out]; exact hq
          · exact M.out i hi (by omega)
    · have hltz : ¬ (kk : Int) < (l.length : Int) := by omega
      go_wp2
      go_ret
      refine ⟨?_, BW.out⟩
      rw [idxP_miss p l (fun i hi => M.out i hi (by omega))]
      rfl

set_option maxHeartbeats 1000000 in
/-- slices.IndexFunc at Rel. -/
theorem indexFuncR (l : List Rel) (p : Rel → Bool) (g : Nat) (lb : Array Value) (eg : ∀ args w, (callFunc g args).run Tryz.prog w = .ok (.enter g args) w) (v : Value) (w : World) (hv : SlR w v l)
    (hp : ∀ W x, Grew w W → x ∈ l → Calls Tryz.prog g (#[x.agg] ++ lb) W fun e w' => e = .returned (.bool (p x)) ∧ Grew W w') :
    Calls Tryz.prog 86 #[v, .func (.func g) #[] lb] w fun e w' => e = .returned (.int .i64 (idxP p l)) ∧ Grew w w' := by
  obtain ⟨A, c, rfl, hlc, hc, hr⟩ := hv.open_
  unfold maxLen at hc
  have HR := Lib.hid hr
  have HP := Lib.hid hp
  clear hr hp hv
  go_enter Tryz.func86, Tryz.ntmps86
  go_wp2
  go_loopg [5, 8] l.length (fun gg _ s8 wr => ∃ kk : Nat, kk ≤ l.length ∧ l.length - kk ≤ gg ∧ s8 = .int .i64 kk ∧ Aside (Grew w wr) ∧ Aside (∀ i (hi : i < l.length), i < kk → p l[i] = false))
  case atStart => exact ⟨0, Nat.zero_le _, by omega, rfl, Grew.refl w, fun i hi h => absurd h (Nat.not_lt_zero _)⟩
  case round =>
    obtain ⟨kk, hkk, hg, rfl, BW, M⟩ := hrel
    by_cases hlt : kk < l.length
    · obtain ⟨b, off, rfl, hb, hcell⟩ := HR.out (by omega)
      obtain ⟨c0, c1, c2, c3, c4⟩ := hcell wr BW.out kk hlt
      have hcall := HP.out wr l[kk] BW.out (List.getElem_mem hlt)
      have hltz : (kk : Int) < (l.length : Int) := by omega
      clear hcell
      generalize hy : l[kk] = y at c0 c1 c2 c3 c4 hcall
      have B : Aside (l[kk] = y) := hy
      clear hy
      unfold Rel.agg at hcall
      cases hq : p y with
      | true =>
        rw [hq] at hcall
        go_wp2_with (go_at_fn g; refine hcall.mono ?_; rintro e w' ⟨rfl, hb'⟩)
        go_ret
        refine ⟨?_, BW.out.trans hb'⟩
        rw [idxP_hit p l kk hlt (by rw [B.out]; exact hq) M.out]
        rfl
      | false =>
        rw [hq] at hcall
        go_wp2_with (go_at_fn g; refine hcall.mono ?_; rintro e w' ⟨rfl, hb'⟩)
        go_roundg (l.length - (kk + 1))
        case measure => omega
        case rel =>
          refine ⟨kk + 1, by omega, by omega, by go_num, BW.out.trans hb', (show Aside _ from fun i hi h => ?_)⟩
          by_cases e : i = kk
          · subst e
            rw [B.out]; exact hq
          · exact M.out i hi (by omega)
    · have hltz : ¬ (kk : Int) < (l.length : Int) := by omega
      go_wp2
      go_ret
      refine ⟨?_, BW.out⟩
      rw [idxP_miss p l (fun i hi => M.out i hi (by omega))]
      rfl

set_option maxHeartbeats 1000000 in
/-- slices.IndexFunc at AuC. -/
theorem indexFuncA (l : List AuC) (p : AuC → Bool) (g : Nat) (lb : Array Value) (eg : ∀ args w, (callFunc g args).run Tryz.prog w = .ok (.enter g args) w) (v : Value) (w : World) (hv : SlA w v l)
    (hp : ∀ W x, Grew w W → x ∈ l → Calls Tryz.prog g (#[x.agg] ++ lb) W fun e w' => e = .returned (.bool (p x)) ∧ Grew W w') :
    Calls Tryz.prog 116 #[v, .func (.func g) #[] lb] w fun e w' => e = .returned (.int .i64 (idxP p l)) ∧ Grew w w' := by
  obtain ⟨A, c, rfl, hlc, hc, hr⟩ := hv.open_
  unfold maxLen at hc
  have HR := Lib.hid hr
  have HP := Lib.hid hp
  clear hr hp hv
  go_enter Tryz.func116, Tryz.ntmps116
  go_wp2
  go_loopg [5, 8] l.length (fun gg _ s8 wr => ∃ kk : Nat, kk ≤ l.length ∧ l.length - kk ≤ gg ∧ s8 = .int .i64 kk ∧ Aside (Grew w wr) ∧ Aside (∀ i (hi : i < l.length), i < kk → p l[i] = false))
  case atStart => exact ⟨0, Nat.zero_le _, by omega, rfl, Grew.refl w, fun i hi h => absurd h (Nat.not_lt_zero _)⟩
  case round =>
    obtain ⟨kk, hkk, hg, rfl, BW, M⟩ := hrel
    by_cases hlt : kk < l.length
    · obtain ⟨b, off, rfl, hb, hcell⟩ := HR.out (by omega)
      obtain ⟨c0, c1, c2, c3, c4, c5⟩ := hcell wr BW.out kk hlt
      have hcall := HP.out wr l[kk] BW.out (List.getElem_mem hlt)
      have hltz : (kk : Int) < (l.length : Int) := by omega
      clear hcell
      generalize hy : l[kk] = y at c0 c1 c2 c3 c4 c5 hcall
      have B : Aside (l[kk] = y) := hy
      clear hy
      unfold AuC.agg at hcall
      cases hq : p y with
      | true =>
        rw [hq] at hcall
        go_wp2_with (go_at_fn g; refine hcall.mono ?_; rintro e w' ⟨rfl, hb'⟩)
        go_ret
        refine ⟨?_, BW.out.trans hb'⟩
        rw [idxP_hit p l kk hlt (by rw [B.out]; exact hq) M.out]
        rfl
      | false =>
        rw [hq] at hcall
        go_wp2_with (go_at_fn g; refine hcall.mono ?_; rintro e w' ⟨rfl, hb'⟩)
        go_roundg (l.length - (kk + 1))
        case measure => omega
        case rel =>
          refine ⟨kk + 1, by omega, by omega, by go_num, BW.out.trans hb', (show Aside _ from fun i hi h => ?_)⟩
          by_cases e : i = kk
          · subst e
            rw [B.out]; exact hq
          · exact M.out i hi (by omega)
    · have hltz : ¬ (kk : Int) < (l.length : Int) := by omega
      go_wp2
      go_ret
      refine ⟨?_, BW.out⟩
      rw [idxP_miss p l (fun i hi => M.out i hi (by omega))]
      rfl

set_option maxHeartbeats 1000000 in
/-- slices.IndexFunc at BrC. -/
theorem indexFuncB (l : List BrC) (p : BrC → Bool) (g : Nat) (lb : Array Value) (eg : ∀ args w, (callFunc g args).run Tryz.prog w = .ok (.enter g args) w) (v : Value) (w : World) (hv : SlB w v l)
    (hp : ∀ W x, Grew w W → x ∈ l → Calls Tryz.prog g (#[x.agg] ++ lb) W fun e w' => e = .returned (.bool (p x)) ∧ Grew W w') :
    Calls Tryz.prog 105 #[v, .func (.func g) #[] lb] w fun e w' => e = .returned (.int .i64 (idxP p l)) ∧ Grew w w' := by
  obtain ⟨A, c, rfl, hlc, hc, hr⟩ := hv.open_
  unfold maxLen at hc
  have HR := Lib.hid hr
  have HP := Lib.hid hp
  clear hr hp hv
  go_enter Tryz.func105, Tryz.ntmps105
  go_wp2
  go_loopg [5, 8] l.length (fun gg _ s8 wr => ∃ kk : Nat, kk ≤ l.length ∧ l.length - kk ≤ gg ∧ s8 = .int .i64 kk ∧ Aside (Grew w wr) ∧ Aside (∀ i (hi : i < l.length), i < kk → p l[i] = false))
  case atStart => exact ⟨0, Nat.zero_le _, by omega, rfl, Grew.refl w, fun i hi h => absurd h (Nat.not_lt_zero _)⟩
  case round =>
    obtain ⟨kk, hkk, hg, rfl, BW, M⟩ := hrel
    by_cases hlt : kk < l.length
    · obtain ⟨b, off, rfl, hb, hcell⟩ := HR.out (by omega)
      obtain ⟨c0, c1, c2, c3, c4, c5⟩ := hcell wr BW.out kk hlt
      have hcall := HP.out wr l[kk] BW.out (List.getElem_mem hlt)
      have hltz : (kk : Int) < (l.length : Int) := by omega
      clear hcell
      generalize hy : l[kk] = y at c0 c1 c2 c3 c4 c5 hcall
      have B : Aside (l[kk] = y) := hy
      clear hy
      unfold BrC.agg at hcall
      cases hq : p y with
      | true =>
        rw [hq] at hcall
        go_wp2_with (go_at_fn g; refine hcall.mono ?_; rintro e w' ⟨rfl, hb'⟩)
        go_ret
        refine ⟨?_, BW.out.trans hb'⟩
        rw [idxP_hit p l kk hlt (by rw [B.out]; exact hq) M.out]
        rfl
      | false =>
        rw [hq] at hcall
        go_wp2_with (go_at_fn g; refine hcall.mono ?_; rintro e w' ⟨rfl, hb'⟩)
        go_roundg (l.length - (kk + 1))
        case measure => omega
        case rel =>
          refine ⟨kk + 1, by omega, by omega, by go_num, BW.out.trans hb', (show Aside _ from fun i hi h => ?_)⟩
          by_cases e : i = kk
          · subst e
            rw [B.out]; exact hq
          · exact M.out i hi (by omega)
    · have hltz : ¬ (kk : Int) < (l.length : Int) := by omega
      go_wp2
      go_ret
      refine ⟨?_, BW.out⟩
      rw [idxP_miss p l (fun i hi => M.out i hi (by omega))]
      rfl

end Go.Proofs.YtfghbendiofbeaaGreatDoor
