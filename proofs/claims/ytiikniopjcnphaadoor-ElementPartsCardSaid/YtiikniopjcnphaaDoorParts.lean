/- The statement on parts of a right list of values, walked: it returns true at every input and changes no block that lay before. No condition. -/
import Derived.Test.YtiikniopjcnphaaDoorE9
import Derived.Test.YtiikniopjcnphaaDoorR3
import Derived.Test.YtiikniopjcnphaaDoorApp
import Derived.Test.YtiikniopjcnphaaDoorPlainD
import Derived.Deep.RegionHeld3
namespace Go.Proofs.YtiikniopjcnphaaDoor
open Go.RowKit

theorem sub_skip {vs part : List Val} {k : Nat} (hk : k < vs.length) (h : part.Sublist (vs.take k)) : part.Sublist (vs.take (k + 1)) := by
  rw [List.take_succ_eq_append_getElem hk]
  exact h.trans (List.sublist_append_left _ _)
theorem sub_keep {vs part : List Val} {k : Nat} (hk : k < vs.length) (h : part.Sublist (vs.take k)) : (part ++ [vs[k]]).Sublist (vs.take (k + 1)) := by
  rw [List.take_succ_eq_append_getElem hk]
  exact h.append (List.Sublist.refl _)
theorem flat_snocS (l : List ByteArray) (x : ByteArray) : l.flatMap oneS ++ [.string x] = (l ++ [x]).flatMap oneS := by simp [List.flatMap_append, oneS]
theorem wide_ok (l m : List ByteArray) (part : List Val) (h : RightV l part) (h0 : langsF (l ++ m) = 0) : checkF (l ++ m) part = (-1, 0) := checkF_ok _ _ (h.wider h0)
theorem wide_no (l : List ByteArray) (part : List Val) (h0 : langsF l ≠ 0) : checkF l part = (-1, 1) := by simp [checkF, h0]
set_option maxRecDepth 100000 in
set_option maxHeartbeats 8000000 in
theorem parts_walk (l : List ByteArray) (vs : List Val) (bits : Int) (more : ByteArray) (lv vv : Value) (w : World) (hl : SlS w lv l) (hv : SlV w vv vs) : Calls Tryd.prog 7 #[lv, vv, .int .u32 bits, .string more] w fun e w' => e = .returned (.bool true) ∧ Grew w w' := by
  have HL := Lib.hid hl
  have HV := Lib.hid hv
  obtain ⟨A, c, rfl, hlc, hc, hr⟩ := hv.open_
  unfold maxLen at hc
  have HR := Lib.hid hr
  clear hl hv hr
  go_enter Tryd.func7, Tryd.ntmps7
  go_wp2_with fail
  refine (awake_any _).mono ?_
  rintro e w1 ⟨rfl, g1⟩
  dsimp only
  go_wp2_with fail
  refine (few_any l vs lv _ _ (HL.out.mono g1) (HV.out.mono g1)).mono ?_
  rintro e w2 ⟨h, rfl⟩
  rcases h with rfl | ⟨rfl, h10, -⟩
  · dsimp only
    go_wp2_with fail
    refine (awake_any _).mono ?_
    rintro e w3 ⟨rfl, g3⟩
    dsimp only
    go_wp2_with fail
    go_ret
    exact ⟨rfl, g1.trans g3⟩
  by_cases h30 : 30 < vs.length
  · have hs2 : ((30 : Int) < (vs.length : Int)) := by omega
    dsimp only
    go_wp2_with fail
    refine (awake_any _).mono ?_
    rintro e w3 ⟨rfl, g3⟩
    dsimp only
    go_wp2_with fail
    go_ret
    exact ⟨rfl, g1.trans g3⟩
  have hs2 : decide ((30 : Int) < (vs.length : Int)) = false := by simp; omega
  by_cases hm : 20 < more.size
  · have hs3 : ((20 : Int) < (more.size : Int)) := by omega
    dsimp only
    go_wp2_with fail
    refine (awake_any _).mono ?_
    rintro e w3 ⟨rfl, g3⟩
    dsimp only
    go_wp2_with fail
    go_ret
    exact ⟨rfl, g1.trans g3⟩
  have hs3 : decide ((20 : Int) < (more.size : Int)) = false := by simp; omega
  have HG1 := Lib.hid g1
  clear g1
  dsimp only
  go_wp2_with fail
  refine (cloneS l lv _ (HL.out.mono HG1.out) (by omega)).mono ?_
  rintro e w3 ⟨v3, rfl, ho3, g3⟩
  have HO3 := Lib.hid (Rd.of_own ho3)
  have HG3 := Lib.hid (HG1.out.trans g3)
  clear ho3 g3 HG1
  dsimp only
  go_wp2_with fail
  refine (cloneV vs _ _ (HV.out.mono HG3.out) (by omega)).mono ?_
  rintro e w4 ⟨v4, rfl, ho4, g4⟩
  have HO4 := Lib.hid (Rd.of_own ho4)
  have HO34 := Lib.hid (Rd.mono HO3.out g4)
  have HG4 := Lib.hid (HG3.out.trans g4)
  clear ho4 g4 HG3 HO3
  have kC := check_any l vs v3 v4 w4 HO34.out HO4.out
  have kR := checkF_right l vs
  generalize checkF l vs = R at kC kR
  obtain ⟨ci, ce⟩ := R
  dsimp only at kC kR
  have KC := Lib.hid kC
  have KR := Lib.hid kR
  clear kC kR
  dsimp only
  go_wp2_with fail
  refine KC.out.mono ?_
  rintro e w5 ⟨rfl, g5⟩
  have HG5 := Lib.hid (HG4.out.trans g5)
  clear g5 HG4 HO4 HO34 KC
  dsimp only
  by_cases hce : ce = 0
  case neg =>
    have he' : (ce != 0) = true := by simpa using hce
    go_wp2_with fail
    go_ret
    exact ⟨rfl, HG5.out⟩
  subst hce
  have HRT := Lib.hid (KR.out.1 rfl)
  clear KR
  obtain ⟨i0, hi, hz0, hz1, hz2⟩ := info_parts cinfoV
  obtain ⟨j0, hj, hy0, hy1, hy2⟩ := info_parts cinfoS
  go_wp2
  go_loopg [11, 52] vs.length (fun gg s11 s52 wr => ∃ (k : Nat) (part : List Val), k ≤ vs.length ∧ vs.length - k ≤ gg ∧ s52 = .int .i64 k ∧ Aside (part.Sublist (vs.take k)) ∧ Aside (wr.ownsRow w.heap.size 31 4 s11 part.length (part.flatMap Val.cells)) ∧ Aside (Grew w wr))
  case atStart => exact ⟨0, [], by omega, by omega, rfl, (show Aside _ from List.nil_sublist _), (show Aside _ from World.ownsRow_nil _ _ _ _), HG5.out⟩
  case round =>
    obtain ⟨k, part, hk, hgk, rfl, SB, OW, BW⟩ := hrel
    have hpl : part.length ≤ vs.length := Nat.le_trans SB.out.length_le (by rw [List.length_take]; omega)
    by_cases hlt : k < vs.length
    case neg =>
      have hltz : ¬ (k : Int) < (vs.length : Int) := by omega
      have hsub : part.Sublist vs := by
        have := SB.out
        rwa [List.take_of_length_le (by omega)] at this
      have HRP := Lib.hid (HRT.out.part hsub)
      have HS := Lib.hid (show SlV wr _ part from Rd.of_own OW.out)
      clear hsub OW SB
      go_wp2_with fail
      refine (cloneS l lv _ (HL.out.mono BW.out) (by omega)).mono ?_
      rintro e w6 ⟨v6, rfl, ho6, g6⟩
      have HO6 := Lib.hid (Rd.of_own ho6)
      have HS6 := Lib.hid (HS.out.mono g6)
      have HG6 := Lib.hid (BW.out.trans g6)
      have kC := check_any l part v6 _ w6 HO6.out HS6.out
      rw [checkF_ok l part HRP.out] at kC
      have KC := Lib.hid kC
      clear ho6 g6 HS kC
      dsimp only
      go_wp2_with fail
      refine KC.out.mono ?_
      rintro e w7 ⟨rfl, g7⟩
      have HS7 := Lib.hid (HS6.out.mono g7)
      have HG7 := Lib.hid (HG6.out.trans g7)
      clear g7 HS6 HG6 HO6 KC
      dsimp only
      go_wp2_with fail
      refine (cloneS l lv _ (HL.out.mono HG7.out) (by omega)).mono ?_
      rintro e w8 ⟨v8, rfl, ho8, g8⟩
      have HO8 := Lib.hid ho8
      have HG8 := Lib.hid g8
      clear ho8 g8
      dsimp only
      go_wp2_with (at_builtin; refine app1 rfl _ _ 28 rfl w7 9 j0 (.string ⟨#[]⟩) 1 16 Tryd.underlying28 hj hy0 hy1 hy2 rfl (by omega) _ _ _ (by rfl) w8 HO8.out HG8.out [.string more] rfl rfl rfl (by unfold maxLen; omega) (by omega) ?_; intro v9 w9 hown9 hg9; rw [flat_snocS] at hown9; have HO9 := Lib.hid (Rd.of_own hown9); clear hown9)
      have HS9 := Lib.hid (HS7.out.mono hg9)
      have HG9 := Lib.hid (HG7.out.trans hg9)
      clear HS7 HG7 hg9 HO8 HG8
      have kC := check_any (l ++ [more]) part v9 _ w9 HO9.out HS9.out
      have kL := fun W (hW : Grew w9 W) => languages_any (l ++ [more]) v9 W (Rd.mono HO9.out hW)
      by_cases h0 : langsF (l ++ [more]) = 0
      · rw [wide_ok l [more] part HRP.out h0] at kC
        have KC := Lib.hid kC
        clear kC h0 kL
        go_wp2_with fail
        refine KC.out.mono ?_
        rintro e w10 ⟨rfl, g10⟩
        have HG10 := Lib.hid (HG9.out.trans g10)
        clear g10
        dsimp only
        go_wp2_with fail
        go_ret
        exact ⟨rfl, HG10.out⟩
      · rw [wide_no _ part h0] at kC
        have KC := Lib.hid kC
        have hne : (langsF (l ++ [more]) != 0) = true := by simpa using h0
        generalize langsF (l ++ [more]) = ll at kL hne
        have KL := Lib.hid kL
        clear kC h0 kL
        go_wp2_with fail
        refine KC.out.mono ?_
        rintro e w10 ⟨rfl, g10⟩
        have HG10 := Lib.hid (HG9.out.trans g10)
        have H10 := Lib.hid g10
        clear g10
        dsimp only
        go_wp2_with fail
        refine (KL.out _ H10.out).mono ?_
        rintro e w11 ⟨rfl, g11⟩
        dsimp only
        go_wp2_with fail
        go_ret
        exact ⟨rfl, HG10.out.trans g11⟩
    have hltz : (k : Int) < (vs.length : Int) := by omega
    have h0z : (0 : Int) ≤ (k : Int) := by omega
    obtain ⟨b, off, rfl, hb, hcell⟩ := HR.out (by omega)
    obtain ⟨c0, c1, c2, c3⟩ := hcell wr BW.out k hlt
    have hget := getF_each HRT.out vs[k] (List.getElem_mem hlt)
    have HSK := Lib.hid (sub_skip hlt SB.out)
    have HKP := Lib.hid (sub_keep hlt SB.out)
    clear hcell
    generalize vs[k] = y at c0 c1 c2 c3 hget HKP
    obtain ⟨yu, ye, yl, yt⟩ := y
    dsimp only at c0 c1 c2 c3 hget
    have kG := fun v W hv => get_any vs yu ye yl v W hv
    rw [hget] at kG
    have KG : RowKit.Hid (∀ v W, SlV W v vs → Calls Tryd.prog 32 #[v, .int .i64 yu, .int .i64 ye, .string yl] W fun e w' => e = .returned (.tuple #[.string yt, .bool true]) ∧ Grew W w') := fun v W hv => kG v W hv
    clear kG hget
    have hsx : wr.heap.size < (wr.alloc (.cells #[.int .i64 yu, .int .i64 ye, .string yl, .string yt] 31)).heap.size := by simp
    have GX := Lib.hid (show Grew w (wr.alloc (.cells #[.int .i64 yu, .int .i64 ye, .string yl, .string yt] 31)) from BW.out.alloc _)
    have OX := Lib.hid (OW.out.alloc (.cells #[.int .i64 yu, .int .i64 ye, .string yl, .string yt] 31))
    have e0 : (wr.alloc (.cells #[.int .i64 yu, .int .i64 ye, .string yl, .string yt] 31)).cell? ⟨wr.heap.size, 0, none⟩ = some (.int .i64 yu) := by simp
    have e1 : (wr.alloc (.cells #[.int .i64 yu, .int .i64 ye, .string yl, .string yt] 31)).cell? ⟨wr.heap.size, 1, none⟩ = some (.int .i64 ye) := by simp
    have e2 : (wr.alloc (.cells #[.int .i64 yu, .int .i64 ye, .string yl, .string yt] 31)).cell? ⟨wr.heap.size, 2, none⟩ = some (.string yl) := by simp
    have e3 : (wr.alloc (.cells #[.int .i64 yu, .int .i64 ye, .string yl, .string yt] 31)).cell? ⟨wr.heap.size, 3, none⟩ = some (.string yt) := by simp
    go_wp2_with fail
    generalize wr.alloc (.cells #[.int .i64 yu, .int .i64 ye, .string yl, .string yt] 31) = WA at e0 e1 e2 e3 hsx GX OX ⊢
    clear c0 c1 c2 c3
    go_region_held3 (fun W => W.cell? ⟨wr.heap.size, 0, none⟩ = some (.int .i64 yu) ∧ W.cell? ⟨wr.heap.size, 1, none⟩ = some (.int .i64 ye) ∧ W.cell? ⟨wr.heap.size, 2, none⟩ = some (.string yl) ∧ Grew WA W) (refine heldA3 WA _ _ _ _ _ _ _ e0 hsx e1 hsx e2 hsx (by repeat (first | exact Grew.refl _ | assumption | refine Grew.setCell ?_ (by simp <;> omega) _ | refine Grew.alloc ?_ _ | refine Grew.drew ?_ | refine Grew.drewN ?_ _ | refine Grew.trans ?_ (by assumption))))
      (first | (go_at_call 31; refine (cloneV vs _ _ (HV.out.mono (GX.out.trans (by repeat (first | exact Grew.refl _ | assumption | refine Grew.setCell ?_ (by simp <;> omega) _ | refine Grew.alloc ?_ _ | refine Grew.drew ?_ | refine Grew.drewN ?_ _ | refine Grew.trans ?_ (by assumption))))) (by omega)).mono ?_; rintro e1 w6 ⟨v6, rfl, ho6, g6⟩; have HO6 := Lib.hid (Rd.of_own ho6); clear ho6) | (go_at_call 32; refine (KG.out _ _ HO6.out).mono ?_; rintro e1 w7 ⟨rfl, g7⟩))
    have G7 : Grew WA w7 := (by repeat (first | exact Grew.refl _ | assumption | refine Grew.setCell ?_ (by simp <;> omega) _ | refine Grew.alloc ?_ _ | refine Grew.drew ?_ | refine Grew.drewN ?_ _ | refine Grew.trans ?_ (by assumption)))
    have f0 := (G7.cell (p := ⟨wr.heap.size, 0, none⟩) hsx).trans e0
    have f1 := (G7.cell (p := ⟨wr.heap.size, 1, none⟩) hsx).trans e1
    have f2 := (G7.cell (p := ⟨wr.heap.size, 2, none⟩) hsx).trans e2
    have f3 := (G7.cell (p := ⟨wr.heap.size, 3, none⟩) hsx).trans e3
    have OX7 := Lib.hid (own_later OX.out G7)
    have GX7 := Lib.hid (GX.out.trans G7)
    have htt : (yt.toList == yt.toList) = true := by simp
    clear e0 e1 e2 e3 G7 OX GX g6 g7 HO6
    go_wp2_with (at_builtin; refine app1 rfl _ _ 32 rfl w 31 i0 (.agg #[.int .i64 0, .int .i64 0, .string ⟨#[]⟩, .string ⟨#[]⟩]) 4 48 Tryd.underlying32 hi hz0 hz1 hz2 rfl (by omega) _ _ _ (by rfl) w7 OX7.out GX7.out [.int .i64 yu, .int .i64 ye, .string yl, .string yt] rfl rfl rfl (by unfold maxLen; omega) (by omega) ?_; intro v8 w8 hown8 hg8; have OW8 := Lib.hid hown8; clear hown8)
    · go_roundg (vs.length - (k + 1))
      case measure => omega
      case rel => exact ⟨k + 1, part ++ [(⟨yu, ye, yl, yt⟩ : Val)], by omega, by omega, by go_num, (show Aside _ from HKP.out), (show Aside _ by rw [List.flatMap_append, List.length_append]; exact OW8.out), (show Aside _ from hg8)⟩
    · go_roundg (vs.length - (k + 1))
      case measure => omega
      case rel => exact ⟨k + 1, part, by omega, by omega, by go_num, (show Aside _ from HSK.out), (show Aside _ from OX7.out), (show Aside _ from GX7.out)⟩
end Go.Proofs.YtiikniopjcnphaaDoor
