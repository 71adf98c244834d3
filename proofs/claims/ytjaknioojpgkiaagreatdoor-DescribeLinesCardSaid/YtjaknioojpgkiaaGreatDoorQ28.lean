/- Lemmas on what the functions of the program and of the library compute: Del3, R4. The conditions stand at each. -/
import Derived.Test.YtjaknioojpgkiaaGreatDoorQ1
import Derived.Test.YtjaknioojpgkiaaGreatDoorQ4
import Derived.Test.YtjaknioojpgkiaaGreatDoorQ22
import Derived.Test.YtjaknioojpgkiaaGreatDoorQ16
import Derived.Test.YtjaknioojpgkiaaGreatDoorQ9
import Derived.Test.YtjaknioojpgkiaaGreatDoorQ3
import Derived.Test.YtjaknioojpgkiaaGreatDoorQ8
/- slices.DeleteFunc at numbers, on a row of the call's own; all other blocks are as they were. No condition but that the function that is handed over answers as p does. -/
namespace Go.Proofs.YtjaknioojpgkiaaGreatDoor
open Go.RowKit

theorem grown_set (w : World) (p : Addr) (u : Value) : w.grownBy (w.setCell p u) (some p.block) := ⟨rfl, rfl, rfl, by simp [World.setCell], fun k _ hne => Below.heap_setCell _ _ _ _ (fun e => hne (by rw [e]))⟩
end Go.Proofs.YtjaknioojpgkiaaGreatDoor

/- The reference implementation's order of the languages, walked: it answers as the program's own. No condition. -/
namespace Go.Proofs.YtjaknioojpgkiaaGreatDoor
open Go.RowKit

def notW (wt : ByteArray) (x : ByteArray) : Bool := !(x.toList == wt.toList)
def preW (l : List ByteArray) (wt : ByteArray) : List ByteArray := if hasF l wt then [wt] else []
theorem filter_one : ∀ (l : List ByteArray) (wt : ByteArray), (strs l).Nodup → l.filter (fun x => x.toList == wt.toList) = preW l wt
  | [], wt, _ => rfl
  | x :: r, wt, h => by
    have hc : (strs (x :: r)) = x.data.toList :: strs r := rfl
    rw [hc, List.nodup_cons] at h
    have ih := filter_one r wt h.2
    unfold preW at ih ⊢
    cases hx : (x.toList == wt.toList) with
    | true =>
      have e : x = wt := by
        have h2 := eq_of_beq hx
        rw [toList_dataE, toList_dataE] at h2
        cases x; cases wt
        simp only [ByteArray.mk.injEq]
        exact Array.toList_inj.1 h2
      have hr : hasF r wt = false := by
        rw [hasF, List.any_eq_false]
        intro y hy hq
        refine h.1 ?_
        have h2 := eq_of_beq hq
        rw [toList_dataE, toList_dataE] at h2
        rw [e, ← h2]
        exact List.mem_map.2 ⟨y, hy, rfl⟩
      rw [hr] at ih
      have hf : (x :: r).filter (fun x => x.toList == wt.toList) = x :: r.filter (fun x => x.toList == wt.toList) := by simp [hx]
      rw [hf, ih]
      simp [hasF, e]
    | false =>
      have hf : (x :: r).filter (fun x => x.toList == wt.toList) = r.filter (fun x => x.toList == wt.toList) := by simp [hx]
      rw [hf, ih]
      have : hasF (x :: r) wt = hasF r wt := by simp [hasF, hx]
      rw [this]
theorem ordL_ref (l : List ByteArray) (wt : ByteArray) (h : (strs l).Nodup) : preW l wt ++ l.filter (notW wt) = ordL wt l := by
  rw [← filter_one l wt h]
  rfl
theorem langs_nodup {l : List ByteArray} (h : langsF l = 0) : (strs l).Nodup := by
  by_cases hn : (strs l).Nodup
  · exact hn
  · simp only [langsF, hn, if_false] at h
    split at h
    · cases h
    · split at h
      · cases h
      · split at h
        · cases h
        · cases h
theorem take_filter (l : List ByteArray) (p : ByteArray → Bool) (k : Nat) (hk : k < l.length) : (l.take (k + 1)).filter p = (l.take k).filter p ++ (if p l[k] then [l[k]] else []) := by
  rw [List.take_succ_eq_append_getElem hk, List.filter_append]
  congr 1
  by_cases h : p l[k] = true
  · simp [h]
  · simp [h]
set_option maxHeartbeats 4000000 in
set_option maxRecDepth 100000 in
theorem refOrder_all (l : List ByteArray) (wt : ByteArray) (v : Value) (w : World) (hv : SlS w v l) :
    Calls Tryz.prog 180 #[v, .string wt] w fun e w' => ∃ v', e = .returned (.tuple #[v', .int .i64 (orderF l wt).2]) ∧ SlS w' v' (orderF l wt).1 ∧ Grew w w' := by
  have hla := refLanguages_any l v w hv
  by_cases h0 : langsF l = 0
  case neg =>
    have hC : orderF l wt = ([], langsF l) := by simp [orderF, h0]
    rw [hC]
    have hne : (langsF l != 0) = true := by simpa using h0
    dsimp only
    generalize langsF l = r at hla hne ⊢
    have HLA := Lib.hid hla
    clear hla h0 hC hv
    go_enter Tryz.func180, Tryz.ntmps180
    go_wp2_with (first | (go_at_call 214; refine HLA.out.mono ?_; rintro e w1 ⟨rfl, hg⟩))
    go_ret2
    exact ⟨_, rfl, SlS.nil _, hg⟩
  rw [h0] at hla
  have HLA := Lib.hid hla
  have hlang := isLanguage_any wt
  cases hw : isLangF wt.data.toList with
  | false =>
    have hC : orderF l wt = ([], 3) := by simp [orderF, h0, hw]
    rw [hC]
    rw [hw] at hlang
    have HLG := Lib.hid hlang
    dsimp only
    clear hla h0 hC hv hlang hw
    go_enter Tryz.func180, Tryz.ntmps180
    go_wp2_with (first | (go_at_call 214; refine HLA.out.mono ?_; rintro e w1 ⟨rfl, hg⟩) | (go_at_call 75; refine (HLG.out _).mono ?_; rintro e w2 ⟨rfl, rfl⟩))
    go_ret2
    exact ⟨_, rfl, SlS.nil _, hg⟩
  | true =>
    obtain ⟨hpos, h8⟩ := langs_ok h0
    have hC : orderF l wt = (preW l wt ++ l.filter (notW wt), 0) := by simp [orderF, h0, hw, ordL_ref l wt (langs_nodup h0)]
    rw [hC]
    rw [hw] at hlang
    have HLG := Lib.hid hlang
    have HV := Lib.hid hv
    have HP := Lib.hid (show preW l wt = if hasF l wt then [wt] else [] from rfl)
    have hpl : (preW l wt).length ≤ 1 := by unfold preW; split <;> simp
    dsimp only
    have KH := Lib.hid (fun W (hW : Grew w W) => has_any l wt v W (hv.mono hW))
    generalize hasF l wt = hb at HP KH
    generalize hpre : preW l wt = pre at HP hpl ⊢
    clear hpre
    obtain ⟨A, c, rfl, hlc, hc, hr⟩ := hv.open_
    unfold maxLen at hc
    obtain ⟨b, off, rfl, hbk, hcell⟩ := hr hpos
    have HCELL := Lib.hid hcell
    clear hla h0 hC hv hlang hw hr hcell
    obtain ⟨i0, hi, hz0, hz1, hz2⟩ := info_parts cinfoS
    cases hb with
    | true =>
      obtain rfl : pre = [wt] := HP.out
      clear HP
      go_enter Tryz.func180, Tryz.ntmps180
      go_wp2_with (first | (go_at_call 214; refine HLA.out.mono ?_; rintro e w1 ⟨rfl, hg⟩) | (go_at_call 75; refine (HLG.out _).mono ?_; rintro e w2 ⟨rfl, rfl⟩) | (go_at_call 215; refine (KH.out _ hg).mono ?_; rintro e w2 ⟨rfl, rfl⟩) | (at_builtin; refine app1 rfl _ _ 26 rfl w 9 i0 (.string ⟨#[]⟩) 1 16 Tryz.underlying26 hi hz0 hz1 hz2 rfl (by omega) _ 0 [] rfl w1 (World.ownsRow_nil _ _ _ _) hg [.string wt] rfl rfl rfl (by unfold maxLen; omega) (by omega) ?_; intro v7 w7 hown7 hg7))
      have OW7 := Lib.hid hown7
      clear hown7
      go_loopw [7, 8] (fun s7 s8 wr => ∃ k : Nat, k ≤ l.length ∧ s8 = .int .i64 k ∧ Aside (wr.ownsRow w.heap.size 9 1 s7 ([wt] ++ (l.take k).filter (notW wt)).length (([wt] ++ (l.take k).filter (notW wt)).flatMap oneS)) ∧ Aside (Grew w wr)) (fun _ i _ => l.length - (intOf i).toNat)
      case atStart => exact ⟨0, by omega, rfl, (show Aside _ from OW7.out), hg7⟩
      case round =>
        obtain ⟨k, hk, rfl, OW, BW⟩ := hrel
        by_cases hlt : k < l.length
        · have hltz : (k : Int) < (l.length : Int) := by omega
          have h0z : (0 : Int) ≤ (k : Int) := by omega
          have hcl := HCELL.out wr BW.out k hlt
          have HT := Lib.hid (take_filter l (notW wt) k hlt)
          have hlen : ([wt] ++ (l.take k).filter (notW wt)).length ≤ 9 := by
            have := List.length_filter_le (notW wt) (l.take k)
            rw [List.length_append]
            rw [List.length_take] at this
            simp at hpl ⊢
            omega
          cases hq : (l[k].toList == wt.toList) with
          | true =>
            have hN : notW wt l[k] = false := by simp [notW, hq]
            rw [hN] at HT
            generalize l[k] = y at hcl hq
            clear hN
            go_wp2
            go_roundw
            case rel =>
              refine ⟨k + 1, by omega, by go_num, ?_, BW⟩
              have := HT.out
              simp only [Bool.false_eq_true, if_false, List.append_nil] at this
              rw [this]
              exact OW
            case measure => simp [intOf]; omega
          | false =>
            have hN : notW wt l[k] = true := by simp [notW, hq]
            rw [hN] at HT
            generalize l[k] = y at hcl hq HT
            clear hN
            go_wp2_with (at_builtin; refine app1 rfl _ _ 26 rfl w 9 i0 (.string ⟨#[]⟩) 1 16 Tryz.underlying26 hi hz0 hz1 hz2 rfl (by omega) _ _ _ (by rfl) wr OW.out BW.out [.string y] rfl rfl rfl (by unfold maxLen; omega) (by omega) ?_; intro v8 w8 hown8 hg8)
            have OW8 : Aside _ := hown8
            have BW8 : Aside _ := hg8
            clear hown8 hg8
            go_wp2
            go_roundw
            case rel =>
              refine ⟨k + 1, by omega, by go_num, ?_, BW8⟩
              have := HT.out
              simp only [if_true] at this
              rw [this, ← List.append_assoc, List.flatMap_append, List.length_append]
              exact OW8
            case measure => simp [intOf]; omega
        · have hltz : ¬ (k : Int) < (l.length : Int) := by omega
          have hT : l.take k = l := List.take_of_length_le (by omega)
          have HS := Lib.hid (Rd.of_own OW.out)
          rw [hT] at HS
          clear hT
          go_wp2
          go_ret2
          exact ⟨_, rfl, HS.out, BW.out⟩
    | false =>
      obtain rfl : pre = [] := HP.out
      clear HP
      go_enter Tryz.func180, Tryz.ntmps180
      go_wp2_with (first | (go_at_call 214; refine HLA.out.mono ?_; rintro e w1 ⟨rfl, hg⟩) | (go_at_call 75; refine (HLG.out _).mono ?_; rintro e w2 ⟨rfl, rfl⟩) | (go_at_call 215; refine (KH.out _ hg).mono ?_; rintro e w2 ⟨rfl, rfl⟩))
      go_loopw [7, 8] (fun s7 s8 wr => ∃ k : Nat, k ≤ l.length ∧ s8 = .int .i64 k ∧ Aside (wr.ownsRow w.heap.size 9 1 s7 (([] : List ByteArray) ++ (l.take k).filter (notW wt)).length ((([] : List ByteArray) ++ (l.take k).filter (notW wt)).flatMap oneS)) ∧ Aside (Grew w wr)) (fun _ i _ => l.length - (intOf i).toNat)
      case atStart => exact ⟨0, by omega, rfl, (show Aside _ from World.ownsRow_nil _ _ _ _), hg⟩
      case round =>
        obtain ⟨k, hk, rfl, OW, BW⟩ := hrel
        by_cases hlt : k < l.length
        · have hltz : (k : Int) < (l.length : Int) := by omega
          have h0z : (0 : Int) ≤ (k : Int) := by omega
          have hcl := HCELL.out wr BW.out k hlt
          have HT := Lib.hid (take_filter l (notW wt) k hlt)
          have hlen : (([] : List ByteArray) ++ (l.take k).filter (notW wt)).length ≤ 9 := by
            have := List.length_filter_le (notW wt) (l.take k)
            rw [List.length_append]
            rw [List.length_take] at this
            simp at hpl ⊢
            omega
          cases hq : (l[k].toList == wt.toList) with
          | true =>
            have hN : notW wt l[k] = false := by simp [notW, hq]
            rw [hN] at HT
            generalize l[k] = y at hcl hq
            clear hN
            go_wp2
            go_roundw
            case rel =>
              refine ⟨k + 1, by omega, by go_num, ?_, BW⟩
              have := HT.out
              simp only [Bool.false_eq_true, if_false, List.append_nil] at this
              rw [this]
              exact OW
            case measure => simp [intOf]; omega
          | false =>
            have hN : notW wt l[k] = true := by simp [notW, hq]
            rw [hN] at HT
            generalize l[k] = y at hcl hq HT
            clear hN
            go_wp2_with (at_builtin; refine app1 rfl _ _ 26 rfl w 9 i0 (.string ⟨#[]⟩) 1 16 Tryz.underlying26 hi hz0 hz1 hz2 rfl (by omega) _ _ _ (by rfl) wr OW.out BW.out [.string y] rfl rfl rfl (by unfold maxLen; omega) (by omega) ?_; intro v8 w8 hown8 hg8)
            have OW8 : Aside _ := hown8
            have BW8 : Aside _ := hg8
            clear hown8 hg8
            go_wp2
            go_roundw
            case rel =>
              refine ⟨k + 1, by omega, by go_num, ?_, BW8⟩
              have := HT.out
              simp only [if_true] at this
              rw [this, ← List.append_assoc, List.flatMap_append, List.length_append]
              exact OW8
            case measure => simp [intOf]; omega
        · have hltz : ¬ (k : Int) < (l.length : Int) := by omega
          have hT : l.take k = l := List.take_of_length_le (by omega)
          have HS := Lib.hid (Rd.of_own OW.out)
          rw [hT] at HS
          clear hT
          go_wp2
          go_ret2
          exact ⟨_, rfl, HS.out, BW.out⟩
end Go.Proofs.YtjaknioojpgkiaaGreatDoor
