/- How values are compared: cmp.Or, element.order and the reference's Less. No condition. -/
import Derived.Test.YtiikniopjcnphaaDoorE4
namespace Go.Proofs.YtiikniopjcnphaaDoor
open Go.RowKit

/-- The first number that is not 0, or 0. -/
def orF : List Int → Int
  | [] => 0
  | x :: r => if x = 0 then orF r else x
theorem orF_drop (l : List Int) (k : Nat) (h : ∀ i (hi : i < l.length), i < k → l[i] = 0) : orF l = orF (l.drop k) := by
  induction k generalizing l with
  | zero => rfl
  | succ k ih =>
    cases l with
    | nil => rfl
    | cons x r =>
      have hx : x = 0 := h 0 (by simp) (by omega)
      rw [List.drop_succ_cons, orF, if_pos hx]
      exact ih r (fun i hi hik => h (i + 1) (Nat.succ_lt_succ hi) (by omega))
theorem orF_hit (l : List Int) (k : Nat) (hk : k < l.length) (h : ∀ i (hi : i < l.length), i < k → l[i] = 0) (hx : l[k] ≠ 0) : orF l = l[k] := by
  rw [orF_drop l k h, List.drop_eq_getElem_cons hk, orF, if_neg hx]
theorem orF_miss (l : List Int) (h : ∀ i (hi : i < l.length), l[i] = 0) : orF l = 0 := by
  rw [orF_drop l l.length (fun i hi _ => h i hi), List.drop_length]
  rfl
theorem cmpOr_any (l : List Int) (v : Value) (w : World) (hv : SlI w v l) : Calls Tryd.prog 71 #[v] w fun e w' => e = .returned (.int .i64 (orF l)) ∧ w = w' := by
  obtain ⟨A, c, rfl, hlc, hc, hr⟩ := hv.open_
  unfold maxLen at hc
  have HR := Lib.hid hr
  clear hr hv
  generalize hR : orF l = R
  have HO := Lib.hid hR
  clear hR
  go_enter Tryd.func71, Tryd.ntmps71
  go_wp2
  go_loop [5, 8] (fun _ s8 => ∃ kk : Nat, kk ≤ l.length ∧ s8 = .int .i64 kk ∧ Aside (∀ i (hi : i < l.length), i < kk → l[i] = 0)) (fun _ i => l.length - (intOf i).toNat)
  case atStart => exact ⟨0, Nat.zero_le _, rfl, fun i hi h => absurd h (Nat.not_lt_zero _)⟩
  case round =>
    obtain ⟨kk, hkk, rfl, M⟩ := hrel
    by_cases hlt : kk < l.length
    · obtain ⟨b, off, rfl, hb, hcell⟩ := HR.out (by omega)
      have c0 := hcell w (Grew.refl w) kk hlt
      clear hcell
      by_cases hx : l[kk] = 0
      · have Hx : Aside (l[kk] = 0) := hx
        rw [hx] at c0
        clear hx
        go_wp2
        go_round
        case measure => simp [intOf]; omega
        case rel =>
          refine ⟨kk + 1, by omega, by go_num, (show Aside _ from fun i hi h => ?_)⟩
          by_cases e : i = kk
          · subst e; exact Hx.out
          · exact M.out i hi (by omega)
      · have Hh := Lib.hid (HO.out.symm.trans (orF_hit l kk hlt M.out hx))
        have hne : (l[kk] != 0) = true := by simpa using hx
        generalize l[kk] = y at c0 hne Hh
        clear hx
        go_wp2
        go_ret
        exact ⟨congrArg (fun z => Ending.returned (Value.int .i64 z)) Hh.out.symm, rfl⟩
    · have Hm := Lib.hid (HO.out.symm.trans (orF_miss l (fun i hi => M.out i hi (by omega))))
      go_wp2
      go_ret
      exact ⟨congrArg (fun z => Ending.returned (Value.int .i64 z)) Hm.out.symm, rfl⟩

/-- How two values stand: by unit, element, language. -/
def orderV (a b : Val) : Int := orF [Lib.compareInt a.unit b.unit, Lib.compareInt a.elem b.elem, Lib.compareBytes a.lang.data.toList b.lang.data.toList]
set_option maxHeartbeats 1000000 in
set_option maxRecDepth 100000 in
theorem order_any (a b : Val) (w : World) : Calls Tryd.prog 55 #[a.agg, b.agg] w fun e w' => e = .returned (.int .i64 (orderV a b)) ∧ Grew w w' := by
  unfold Val.agg orderV
  have h1 := Tryd.cmp_Compare_int a.unit b.unit
  have h2 := Tryd.cmp_Compare_int a.elem b.elem
  have h3 := Tryd.strings_Compare a.lang b.lang
  generalize Lib.compareInt a.unit b.unit = x1 at h1 ⊢
  generalize Lib.compareInt a.elem b.elem = x2 at h2 ⊢
  generalize Lib.compareBytes a.lang.data.toList b.lang.data.toList = x3 at h3 ⊢
  have H1 := Lib.hid h1
  have H2 := Lib.hid h2
  have H3 := Lib.hid h3
  clear h1 h2 h3
  have hs : ∀ W : World, SlI (W.alloc (.cells #[.int .i64 x1, .int .i64 x2, .int .i64 x3] 3)).drew (.slice (some ⟨W.heap.size, 0, none⟩) 3 3) [x1, x2, x3] := fun W => Rd.mono (Rd.fresh W _ 1 3 [.int .i64 x1, .int .i64 x2, .int .i64 x3] rfl (by decide)) ((Grew.refl _).drew)
  have HS := Lib.hid hs
  clear hs
  go_enter Tryd.func55, Tryd.ntmps55
  go_wp2
  refine region_still_tail 15 (by kernel_rfl) (by kernel_rfl) ?_
  simp only [List.take_succ_cons, List.take_zero, List.drop_succ_cons, List.drop_zero]
  iterate 4 still_step
  refine wpStill_step (fun K hK => ?_)
  go_simp
  refine ⟨.int .i64 x1, H1.out _, hK _ ?_⟩
  clear hK K
  iterate 4 still_step
  refine wpStill_step (fun K hK => ?_)
  go_simp
  refine ⟨.int .i64 x2, H2.out _, hK _ ?_⟩
  clear hK K
  iterate 4 still_step
  refine wpStill_step (fun K hK => ?_)
  go_simp
  refine ⟨.int .i64 x3, H3.out _, hK _ ?_⟩
  clear hK K
  refine wpStill_nil ?_
  go_wp2_with fail
  refine (cmpOr_any [x1, x2, x3] _ _ ?_).mono ?_
  · have := HS.out ((w.alloc (.cells #[.int .i64 a.unit, .int .i64 a.elem, .string a.lang, .string a.text] 31)).alloc (.cells #[.int .i64 b.unit, .int .i64 b.elem, .string b.lang, .string b.text] 31))
    simpa using this
  rintro e w1 ⟨rfl, rfl⟩
  go_wp2
  go_ret
  exact ⟨rfl, ((((Grew.refl w).alloc _).alloc _).alloc _).drew⟩
end Go.Proofs.YtiikniopjcnphaaDoor
