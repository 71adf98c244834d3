/- slices.IndexFunc at this program's types: the first place at which the function that is handed over says yes. No condition but that it answers as p does. -/
import Derived.Test.YtiikniopjcnphaaDoorProg
import Derived.Test.YtiikniopjcnphaaDoorTypes
namespace Go.Proofs.YtiikniopjcnphaaDoor
open Go.RowKit

set_option maxHeartbeats 1000000 in
/-- slices.IndexFunc at Val. -/
theorem indexFuncV (l : List Val) (p : Val → Bool) (g : Nat) (lb : Array Value) (eg : ∀ args w, (callFunc g args).run Tryd.prog w = .ok (.enter g args) w) (v : Value) (w : World) (hv : SlV w v l)
    (hp : ∀ W x, Grew w W → x ∈ l → Calls Tryd.prog g (#[x.agg] ++ lb) W fun e w' => e = .returned (.bool (p x)) ∧ Grew W w') :
    Calls Tryd.prog 56 #[v, .func (.func g) #[] lb] w fun e w' => e = .returned (.int .i64 (idxP p l)) ∧ Grew w w' := by
  obtain ⟨A, c, rfl, hlc, hc, hr⟩ := hv.open_
  unfold maxLen at hc
  have HR := Lib.hid hr
  have HP := Lib.hid hp
  clear hr hp hv
  go_enter Tryd.func56, Tryd.ntmps56
  go_wp2
  go_loopg [5, 8] l.length (fun gg _ s8 wr => ∃ kk : Nat, kk ≤ l.length ∧ l.length - kk ≤ gg ∧ s8 = .int .i64 kk ∧ Aside (Grew w wr) ∧ Aside (∀ i (hi : i < l.length), i < kk → p l[i] = false))
  case atStart => exact ⟨0, Nat.zero_le _, by omega, rfl, Grew.refl w, fun i hi h => absurd h (Nat.not_lt_zero _)⟩
  case round =>
    obtain ⟨kk, hkk, hg, rfl, BW, M⟩ := hrel
    by_cases hlt : kk < l.length
    · obtain ⟨b, off, rfl, hb, hcell⟩ := HR.out (by omega)
      obtain ⟨c0, c1, c2, c3⟩ := hcell wr BW.out kk hlt
      have hcall := HP.out wr l[kk] BW.out (List.getElem_mem hlt)
      have hltz : (kk : Int) < (l.length : Int) := by omega
      clear hcell
      generalize hy : l[kk] = y at c0 c1 c2 c3 hcall
      have B : Aside (l[kk] = y) := hy
      clear hy
      unfold Val.agg at hcall
      cases hq : p y with
      | true =>
        rw [hq] at hcall
        go_wp2_with (go_at_fn g; refine hcall.mono ?_; rintro e w' ⟨rfl, hb'⟩)
        go_ret
        refine ⟨?_, BW.out.trans hb'⟩
        rw [idxP_hit p l kk hlt (by rw [B.out]; exact hq) M.out]
        rfl
      | false =>
        rw [hq] at hcall
        go_wp2_with (go_at_fn g; refine hcall.mono ?_; rintro e w' ⟨rfl, hb'⟩)
        go_roundg (l.length - (kk + 1))
        case measure => omega
        case rel =>
          refine ⟨kk + 1, by omega, by omega, by go_num, BW.out.trans hb', (show Aside _ from fun i hi h => ?_)⟩
          by_cases e : i = kk
          · subst e
            rw [B.out]; exact hq
          · exact M.out i hi (by omega)
    · have hltz : ¬ (kk : Int) < (l.length : Int) := by omega
      go_wp2
      go_ret
      refine ⟨?_, BW.out⟩
      rw [idxP_miss p l (fun i hi => M.out i hi (by omega))]
      rfl

set_option maxHeartbeats 1000000 in
/-- slices.IndexFunc at Kind. -/
theorem indexFuncK (l : List Kind) (p : Kind → Bool) (g : Nat) (lb : Array Value) (eg : ∀ args w, (callFunc g args).run Tryd.prog w = .ok (.enter g args) w) (v : Value) (w : World) (hv : SlK w v l)
    (hp : ∀ W x, Grew w W → x ∈ l → Calls Tryd.prog g (#[x.agg] ++ lb) W fun e w' => e = .returned (.bool (p x)) ∧ Grew W w') :
    Calls Tryd.prog 39 #[v, .func (.func g) #[] lb] w fun e w' => e = .returned (.int .i64 (idxP p l)) ∧ Grew w w' := by
  obtain ⟨A, c, rfl, hlc, hc, hr⟩ := hv.open_
  unfold maxLen at hc
  have HR := Lib.hid hr
  have HP := Lib.hid hp
  clear hr hp hv
  go_enter Tryd.func39, Tryd.ntmps39
  go_wp2
  go_loopg [5, 8] l.length (fun gg _ s8 wr => ∃ kk : Nat, kk ≤ l.length ∧ l.length - kk ≤ gg ∧ s8 = .int .i64 kk ∧ Aside (Grew w wr) ∧ Aside (∀ i (hi : i < l.length), i < kk → p l[i] = false))
  case atStart => exact ⟨0, Nat.zero_le _, by omega, rfl, Grew.refl w, fun i hi h => absurd h (Nat.not_lt_zero _)⟩
  case round =>
    obtain ⟨kk, hkk, hg, rfl, BW, M⟩ := hrel
    by_cases hlt : kk < l.length
    · obtain ⟨b, off, rfl, hb, hcell⟩ := HR.out (by omega)
      obtain ⟨c0, c1, c2⟩ := hcell wr BW.out kk hlt
      have hcall := HP.out wr l[kk] BW.out (List.getElem_mem hlt)
      have hltz : (kk : Int) < (l.length : Int) := by omega
      clear hcell
      generalize hy : l[kk] = y at c0 c1 c2 hcall
      have B : Aside (l[kk] = y) := hy
      clear hy
      unfold Kind.agg at hcall
      cases hq : p y with
      | true =>
        rw [hq] at hcall
        go_wp2_with (go_at_fn g; refine hcall.mono ?_; rintro e w' ⟨rfl, hb'⟩)
        go_ret
        refine ⟨?_, BW.out.trans hb'⟩
        rw [idxP_hit p l kk hlt (by rw [B.out]; exact hq) M.out]
        rfl
      | false =>
        rw [hq] at hcall
        go_wp2_with (go_at_fn g; refine hcall.mono ?_; rintro e w' ⟨rfl, hb'⟩)
        go_roundg (l.length - (kk + 1))
        case measure => omega
        case rel =>
          refine ⟨kk + 1, by omega, by omega, by go_num, BW.out.trans hb', (show Aside _ from fun i hi h => ?_)⟩
          by_cases e : i = kk
          · subst e
            rw [B.out]; exact hq
          · exact M.out i hi (by omega)
    · have hltz : ¬ (kk : Int) < (l.length : Int) := by omega
      go_wp2
      go_ret
      refine ⟨?_, BW.out⟩
      rw [idxP_miss p l (fun i hi => M.out i hi (by omega))]
      rfl

set_option maxHeartbeats 1000000 in
/-- slices.IndexFunc at ByteArray. -/
theorem indexFuncS (l : List ByteArray) (p : ByteArray → Bool) (g : Nat) (lb : Array Value) (eg : ∀ args w, (callFunc g args).run Tryd.prog w = .ok (.enter g args) w) (v : Value) (w : World) (hv : SlS w v l)
    (hp : ∀ W x, Grew w W → x ∈ l → Calls Tryd.prog g (#[(.string x)] ++ lb) W fun e w' => e = .returned (.bool (p x)) ∧ Grew W w') :
    Calls Tryd.prog 53 #[v, .func (.func g) #[] lb] w fun e w' => e = .returned (.int .i64 (idxP p l)) ∧ Grew w w' := by
  obtain ⟨A, c, rfl, hlc, hc, hr⟩ := hv.open_
  unfold maxLen at hc
  have HR := Lib.hid hr
  have HP := Lib.hid hp
  clear hr hp hv
  go_enter Tryd.func53, Tryd.ntmps53
  go_wp2
  go_loopg [5, 8] l.length (fun gg _ s8 wr => ∃ kk : Nat, kk ≤ l.length ∧ l.length - kk ≤ gg ∧ s8 = .int .i64 kk ∧ Aside (Grew w wr) ∧ Aside (∀ i (hi : i < l.length), i < kk → p l[i] = false))
  case atStart => exact ⟨0, Nat.zero_le _, by omega, rfl, Grew.refl w, fun i hi h => absurd h (Nat.not_lt_zero _)⟩
  case round =>
    obtain ⟨kk, hkk, hg, rfl, BW, M⟩ := hrel
    by_cases hlt : kk < l.length
    · obtain ⟨b, off, rfl, hb, hcell⟩ := HR.out (by omega)
      obtain c0 := hcell wr BW.out kk hlt
      have hcall := HP.out wr l[kk] BW.out (List.getElem_mem hlt)
      have hltz : (kk : Int) < (l.length : Int) := by omega
      clear hcell
      generalize hy : l[kk] = y at c0 hcall
      have B : Aside (l[kk] = y) := hy
      clear hy
      cases hq : p y with
      | true =>
        rw [hq] at hcall
        go_wp2_with (go_at_fn g; refine hcall.mono ?_; rintro e w' ⟨rfl, hb'⟩)
        go_ret
        refine ⟨?_, BW.out.trans hb'⟩
        rw [idxP_hit p l kk hlt (by rw [B.out]; exact hq) M.out]
        rfl
      | false =>
        rw [hq] at hcall
        go_wp2_with (go_at_fn g; refine hcall.mono ?_; rintro e w' ⟨rfl, hb'⟩)
        go_roundg (l.length - (kk + 1))
        case measure => omega
        case rel =>
          refine ⟨kk + 1, by omega, by omega, by go_num, BW.out.trans hb', (show Aside _ from fun i hi h => ?_)⟩
          by_cases e : i = kk
          · subst e
            rw [B.out]; exact hq
          · exact M.out i hi (by omega)
    · have hltz : ¬ (kk : Int) < (l.length : Int) := by omega
      go_wp2
      go_ret
      refine ⟨?_, BW.out⟩
      rw [idxP_miss p l (fun i hi => M.out i hi (by omega))]
      rfl

end Go.Proofs.YtiikniopjcnphaaDoor
