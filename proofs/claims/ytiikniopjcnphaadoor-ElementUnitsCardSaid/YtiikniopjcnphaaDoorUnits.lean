/- The statement on the values of all units together, walked: it returns true at every input and changes no block that lay before. No condition. -/
import Derived.Test.YtiikniopjcnphaaDoorE9
import Derived.Test.YtiikniopjcnphaaDoorR3
import Derived.Test.YtiikniopjcnphaaDoorApp
import Derived.Test.YtiikniopjcnphaaDoorPlainD
import Derived.Deep.RegionHeld3
namespace Go.Proofs.YtiikniopjcnphaaDoor
open Go.RowKit

theorem upTo_len (vs : List Val) (n : Int) : (upTo vs n).length ≤ vs.length := List.length_filter_le _ _
theorem ofF_len (vs : List Val) (n : Int) : (ofF vs n).length ≤ vs.length := List.length_filter_le _ _
theorem ofF_pos (vs : List Val) (k : Nat) (hk : k < vs.length) : 0 < (ofF vs vs[k].unit).length :=
  List.length_pos_of_mem (a := vs[k]) (List.mem_filter.2 ⟨List.getElem_mem hk, by simp⟩)
theorem own_cells0 {w : World} {base : Nat} {e : TypeId} {k g n cap : Nat} {ds : List Value} (h : w.ownsRow base e k (.slice (some ⟨g, 0, none⟩) n cap) n ds) : ∀ j u, ds[j]? = some u → w.cell? ⟨g, 0 + j, none⟩ = some u := by
  intro j u hu
  have hl := h.1
  have hj := (List.getElem?_eq_some_iff.1 hu).1
  obtain ⟨u', hu', hc⟩ := own_cell h j (by omega)
  rw [Nat.zero_add, hc, ← hu', hu]
set_option maxRecDepth 100000 in
set_option maxHeartbeats 4000000 in
theorem units_walk (l : List ByteArray) (vs : List Val) (lv vv : Value) (w : World) (hl : SlS w lv l) (hv : SlV w vv vs) : Calls Tryd.prog 8 #[lv, vv] w fun e w' => e = .returned (.bool true) ∧ Grew w w' := by
  have HL := Lib.hid hl
  have HV := Lib.hid hv
  obtain ⟨A, c, rfl, hlc, hc, hr⟩ := hv.open_
  unfold maxLen at hc
  have HR := Lib.hid hr
  clear hl hv hr
  go_enter Tryd.func8, Tryd.ntmps8
  go_wp2_with fail
  refine (awake_any _).mono ?_
  rintro e w1 ⟨rfl, g1⟩
  dsimp only
  go_wp2_with fail
  refine (few_any l vs lv _ _ (HL.out.mono g1) (HV.out.mono g1)).mono ?_
  rintro e w2 ⟨h, rfl⟩
  rcases h with rfl | ⟨rfl, h10, -⟩
  · dsimp only
    go_wp2_with fail
    refine (awake_any _).mono ?_
    rintro e w3 ⟨rfl, g3⟩
    dsimp only
    go_wp2_with fail
    go_ret
    exact ⟨rfl, g1.trans g3⟩
  by_cases h30 : 30 < vs.length
  · have hs2 : ((30 : Int) < (vs.length : Int)) := by omega
    dsimp only
    go_wp2_with fail
    refine (awake_any _).mono ?_
    rintro e w3 ⟨rfl, g3⟩
    dsimp only
    go_wp2_with fail
    go_ret
    exact ⟨rfl, g1.trans g3⟩
  have hs2 : decide ((30 : Int) < (vs.length : Int)) = false := by simp; omega
  have HG1 := Lib.hid g1
  clear g1
  dsimp only
  go_wp2_with fail
  refine (cloneS l lv _ (HL.out.mono HG1.out) (by omega)).mono ?_
  rintro e w3 ⟨v3, rfl, ho3, g3⟩
  have HO3 := Lib.hid (Rd.of_own ho3)
  have HG3 := Lib.hid (HG1.out.trans g3)
  clear ho3 g3 HG1
  dsimp only
  go_wp2_with fail
  refine (cloneV vs _ _ (HV.out.mono HG3.out) (by omega)).mono ?_
  rintro e w4 ⟨v4, rfl, ho4, g4⟩
  have HO4 := Lib.hid (Rd.of_own ho4)
  have HO34 := Lib.hid (Rd.mono HO3.out g4)
  have HG4 := Lib.hid (HG3.out.trans g4)
  clear ho4 g4 HG3 HO3
  have kC := check_any l vs v3 v4 w4 HO34.out HO4.out
  have kR := checkF_right l vs
  generalize checkF l vs = R at kC kR
  obtain ⟨ci, ce⟩ := R
  dsimp only at kC kR
  have KC := Lib.hid kC
  have KR := Lib.hid kR
  clear kC kR
  dsimp only
  go_wp2_with fail
  refine KC.out.mono ?_
  rintro e w5 ⟨rfl, g5⟩
  have HG5 := Lib.hid (HG4.out.trans g5)
  clear g5 HG4 HO4 HO34 KC
  dsimp only
  by_cases hce : ce = 0
  case neg =>
    have he' : (ce != 0) = true := by simpa using hce
    go_wp2_with fail
    go_ret
    exact ⟨rfl, HG5.out⟩
  subst hce
  have hright := KR.out.1 rfl
  have HP := Lib.hid hright.2.2.2
  have HGU := Lib.hid (fun v hv => (hright.2.2.1 v hv).1)
  clear hright KR
  obtain ⟨i0, hi, hz0, hz1, hz2⟩ := info_parts cinfoV
  go_wp2
  go_loopg [7, 8, 37] vs.length (fun gg s7 s8 s37 wr => ∃ k : Nat, k ≤ vs.length ∧ vs.length - k ≤ gg ∧ s37 = .int .i64 k ∧ s8 = .int .i64 (lastU vs k) ∧ Aside (wr.ownsRow w.heap.size 31 4 s7 (upTo vs (lastU vs k)).length ((upTo vs (lastU vs k)).flatMap Val.cells)) ∧ Aside (Grew w wr))
  case atStart => exact ⟨0, by omega, by omega, rfl, rfl, (show Aside _ by rw [unit_start HGU.out]; exact World.ownsRow_nil _ _ _ _), HG5.out⟩
  case round =>
    obtain ⟨k, hk, hgk, rfl, rfl, OW, BW⟩ := hrel
    by_cases hlt : k < vs.length
    case neg =>
      have hltz : ¬ (k : Int) < (vs.length : Int) := by omega
      obtain rfl : k = vs.length := by omega
      have hu := unit_end HP.out
      rw [hu] at OW
      have HS := Lib.hid (show SlV wr _ vs from Rd.of_own OW.out)
      clear hu OW
      go_wp2_with fail
      refine (equalV vs vs _ _ _ HS.out (HV.out.mono BW.out)).mono ?_
      rintro e w6 ⟨rfl, g6⟩
      simp only [decide_true]
      go_wp2_with fail
      go_ret
      exact ⟨rfl, BW.out.trans g6⟩
    have hltz : (k : Int) < (vs.length : Int) := by omega
    have h0z : (0 : Int) ≤ (k : Int) := by omega
    obtain ⟨b, off, rfl, hb, hcell⟩ := HR.out (by omega)
    obtain ⟨c0, c1, c2, c3⟩ := hcell wr BW.out k hlt
    have HN := Lib.hid (lastU_succ vs k hlt)
    have HST := Lib.hid (unit_step HP.out (fun v hv => HGU.out v hv) k hlt)
    have HPOS := Lib.hid (ofF_pos vs k hlt)
    have hul := upTo_len vs (lastU vs k)
    clear hcell
    generalize hy : vs[k] = y at c0 c1 c2 c3 HN HST HPOS
    clear hy
    obtain ⟨yu, ye, yl, yt⟩ := y
    dsimp only at c0 c1 c2 c3 HN HST HPOS
    generalize lastU vs k = lu at HST OW hul
    by_cases hne : yu = lu
    · subst hne
      have hq : (yu != yu) = false := by simp
      clear HST
      go_wp2
      go_roundg (vs.length - (k + 1))
      case measure => omega
      case rel => exact ⟨k + 1, by omega, by omega, by go_num, by rw [HN.out], (show Aside _ by rw [HN.out]; exact OW.out.alloc _), (show Aside _ from BW.out.alloc _)⟩
    · have hq : (yu != lu) = true := by simpa using hne
      have HS := Lib.hid (HST.out hne)
      have kO := fun v W hv => of_vals vs yu v W hv (by omega)
      have hol := ofF_len vs yu
      generalize ofF vs yu = R at HS HPOS kO hol
      have KO := Lib.hid kO
      clear HST hne kO
      have hsx : wr.heap.size < (wr.alloc (.cells #[.int .i64 yu, .int .i64 ye, .string yl, .string yt] 31)).heap.size := by simp
      have hob : ∀ n, wr.heap.size ≤ n → some n ≠ Value.ownBlock u7 := fun n hn e => by have := (OW.out.lt n e.symm).2; omega
      have GX := Lib.hid (show Grew w (wr.alloc (.cells #[.int .i64 yu, .int .i64 ye, .string yl, .string yt] 31)) from BW.out.alloc _)
      have OX := Lib.hid (OW.out.alloc (.cells #[.int .i64 yu, .int .i64 ye, .string yl, .string yt] 31))
      have hcx : (wr.alloc (.cells #[.int .i64 yu, .int .i64 ye, .string yl, .string yt] 31)).cell? ⟨wr.heap.size, 0, none⟩ = some (.int .i64 yu) := by simp
      go_wp2_with fail
      generalize wr.alloc (.cells #[.int .i64 yu, .int .i64 ye, .string yl, .string yt] 31) = WA at hcx hsx GX OX ⊢
      clear c0 c1 c2 c3
      go_region_held3 (fun W => W.cell? ⟨wr.heap.size, 0, none⟩ = some (.int .i64 yu) ∧ Grew w W) (first | exact ⟨hk8, g8⟩ | refine heldB w WA _ _ _ hcx hsx GX.out (by repeat (first | exact Grew.refl _ | assumption | refine Grew.setCell ?_ (by simp <;> omega) _ | refine Grew.alloc ?_ _ | refine Grew.drew ?_ | refine Grew.drewN ?_ _ | refine Grew.trans ?_ (by assumption))))
        (first | (go_at_call 31; refine (cloneV vs _ _ (HV.out.mono (GX.out.trans (by repeat (first | exact Grew.refl _ | assumption | refine Grew.setCell ?_ (by simp <;> omega) _ | refine Grew.alloc ?_ _ | refine Grew.drew ?_ | refine Grew.drewN ?_ _ | refine Grew.trans ?_ (by assumption))))) (by omega)).mono ?_; rintro e1 w6 ⟨v6, rfl, ho6, g6⟩; have HO6 := Lib.hid (Rd.of_own ho6); clear ho6) | (go_at_call 33; refine (KO.out _ _ HO6.out).mono ?_; rintro e1 w7 ⟨v7, rfl, ho7, g7⟩; obtain ⟨gb, cap, rfl, hbg, hglt, hcap⟩ := own_form ho7 HPOS.out; have HO7 := Lib.hid ho7; clear ho7) | ((refine stepN (by rfl) _ _ 32 (by rfl) w 31 i0 (.agg #[.int .i64 0, .int .i64 0, .string ⟨#[]⟩, .string ⟨#[]⟩]) 4 48 Tryd.underlying32 hi hz0 hz1 hz2 rfl (by omega) _ _ _ (by rfl) w7 (own_later OX.out (by repeat (first | exact Grew.refl _ | assumption | refine Grew.setCell ?_ (by simp <;> omega) _ | refine Grew.alloc ?_ _ | refine Grew.drew ?_ | refine Grew.drewN ?_ _ | refine Grew.trans ?_ (by assumption)))) (GX.out.trans (by repeat (first | exact Grew.refl _ | assumption | refine Grew.setCell ?_ (by simp <;> omega) _ | refine Grew.alloc ?_ _ | refine Grew.drew ?_ | refine Grew.drewN ?_ _ | refine Grew.trans ?_ (by assumption)))) _ _ gb 0 (R.flatMap Val.cells) (by rfl) (flatMap_len Val.cells 4 (fun _ => rfl) R) (own_cells0 HO7.out) (one_cellsV R) (by unfold maxLen; omega) (by omega) ?_; intro v8 w8 ho8 g8 hc8; have hk8 := hc8 ⟨wr.heap.size, 0, none⟩ (.int .i64 yu) ((Grew.cell (show Grew WA w7 from (by repeat (first | exact Grew.refl _ | assumption | refine Grew.setCell ?_ (by simp <;> omega) _ | refine Grew.alloc ?_ _ | refine Grew.drew ?_ | refine Grew.drewN ?_ _ | refine Grew.trans ?_ (by assumption)))) hsx).trans hcx) (hob wr.heap.size (Nat.le_refl _)); have HO8 := Lib.hid ho8; clear ho8 hc8)))
      rw [← List.flatMap_append, HS.out] at HO8
      have hle : (upTo vs lu).length + R.length = (upTo vs yu).length := by rw [← HS.out, List.length_append]
      rw [hle] at HO8
      clear hle
      go_wp2
      go_roundg (vs.length - (k + 1))
      case measure => omega
      case rel => exact ⟨k + 1, by omega, by omega, by go_num, by rw [HN.out], (show Aside _ by rw [HN.out]; exact HO8.out), (show Aside _ from g8)⟩
end Go.Proofs.YtiikniopjcnphaaDoor
