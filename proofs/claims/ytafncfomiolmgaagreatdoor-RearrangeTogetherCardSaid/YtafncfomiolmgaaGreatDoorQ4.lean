/- Lemmas on what the functions of the program and of the library compute: A5, T6, T7, A6, B2, B3, T8, T9, T10. The conditions stand at each. -/
import Derived.Test.YtafncfomiolmgaaGreatDoorQ2
import Derived.Test.YtafncfomiolmgaaGreatDoorQ3
import Derived.Deep.RegionHeld3
/- authority: successors, Check, walked. The condition: the library's own variables hold what they must. -/
namespace Go.Proofs.YtafncfomiolmgaaGreatDoor
open Go.RowKit

/-- A call that answers with two numbers, the second of which is 0 just if P holds. -/
def RetIff2 (P : Prop) (w : World) (e : Ending) (w' : World) : Prop := ∃ i n : Int, e = .returned (.tuple #[.int .i64 i, .int .i64 n]) ∧ (n = 0 ↔ P) ∧ Grew w w'
theorem RetIff2.no {P : Prop} {w w' : World} (i n : Int) (hn : n ≠ 0) (h : ¬ P) (hg : Grew w w') : RetIff2 P w (.returned (.tuple #[.int .i64 i, .int .i64 n])) w' := ⟨i, n, rfl, ⟨fun e => absurd e hn, fun e => absurd e h⟩, hg⟩
theorem RetIff2.yes {P : Prop} {w w' : World} (i : Int) (h : P) (hg : Grew w w') : RetIff2 P w (.returned (.tuple #[.int .i64 i, .int .i64 0])) w' := ⟨i, 0, rfl, ⟨fun _ => h, fun _ => rfl⟩, hg⟩
end Go.Proofs.YtafncfomiolmgaaGreatDoor

/- tree.Check, walked. The conditions: the library's own variables hold what they must; the lists are short. -/
namespace Go.Proofs.YtafncfomiolmgaaGreatDoor
open Go.RowKit

set_option maxRecDepth 100000 in
set_option maxHeartbeats 8000000 in
theorem tCheck (rs : List Int) (l : List Br) (rv bv : Value) (w : World) (hE : Env w) (hr : SlI w rv rs) (hv : SlBr w bv l) (hf : FewBr l) (hrl : rs.length ≤ 1000000) :
    Calls Tryz.prog 28 #[.agg #[rv, bv]] w (RetIff2 (RightT ⟨rs, l⟩) w) := by
  have HV := Lib.hid hv
  have HE := Lib.hid hE
  have HRR := Lib.hid hr
  have HF := Lib.hid hf
  obtain ⟨A, c, rfl, hlc, hc, -⟩ := hv.open_
  unfold maxLen at hc
  clear hv hE
  obtain ⟨Ar, cr, hrv, -, -, -⟩ := hr.open_
  clear hr hf
  by_cases h256 : 256 < l.length
  · have hb : (256 : Int) < (l.length : Int) := by omega
    have Hn : RowKit.Hid (¬ RightT ⟨rs, l⟩) := fun h => by have := h.1; dsimp only at this; omega
    go_enter Tryz.func28, Tryz.ntmps28
    go_wp2
    go_ret2
    exact RetIff2.no _ 8 (by decide) Hn.out ((Grew.refl w).alloc _)
  have hb : ¬ (256 : Int) < (l.length : Int) := by omega
  have HD : RowKit.Hid (RightT ⟨rs, l⟩ ↔ (∀ i (h : i < l.length), BrAlone l i h) ∧ (∀ i (h : i < l.length), BrPlaced l l[i]) ∧ (∀ i (h : i < l.length), sortI l[i].kids = kidsOf l l[i].id) ∧ sortI rs = kidsOf l 0 ∧ ∀ i (h : i < l.length), BrDeep l l[i]) := ⟨fun h => h.2, fun h => ⟨by show l.length ≤ 256; omega, h⟩⟩
  generalize RightT ⟨rs, l⟩ = PR at HD ⊢
  have K1 := Lib.hid (fun i hi W (hW : Grew w W) => tAlone l i hi rv (.slice A l.length c) W (HE.out.mono hW) (HV.out.mono hW))
  have K2 := Lib.hid (fun i hi W (hW : Grew w W) => tPlaced l i hi rv (.slice A l.length c) W (HV.out.mono hW))
  have K3 := Lib.hid (fun i hi W (hW : Grew w W) => tKids l i hi rv (.slice A l.length c) W (HV.out.mono hW) HF.out)
  have KJ := Lib.hid (fun W (hW : Grew w W) => tJust l 0 rs rv (.slice A l.length c) rv W (HV.out.mono hW) (HRR.out.mono hW) HF.out.1 hrl)
  have KD := Lib.hid (fun (hP : ∀ i (h : i < l.length), BrPlaced l l[i]) i hi W (hW : Grew w W) => tDepth l i hi rv (.slice A l.length c) W (HV.out.mono hW) HF.out.1 hP)
  clear HV HE HRR HF
  subst hrv
  go_enter Tryz.func28, Tryz.ntmps28
  go_wp2
  refine wp_loop_rounds 5 ?_
  rw [rounds_succ]
  go_wp2
  have HG0 := Lib.hid (show Grew w ((w.alloc (.cells [.slice Ar rs.length cr, .slice A l.length c].toArray 35)).alloc (.cells [.func (.func 70) #[] #[], .func (.func 71) #[] #[], .func (.func 68) #[] #[], .func (.func 72) #[] #[]].toArray 81)) from ((Grew.refl w).alloc _).alloc _)
  have HBA := Lib.hid (Grew.refl ((w.alloc (.cells [.slice Ar rs.length cr, .slice A l.length c].toArray 35)).alloc (.cells [.func (.func 70) #[] #[], .func (.func 71) #[] #[], .func (.func 68) #[] #[], .func (.func 72) #[] #[]].toArray 81)))
  go_loopg [33] l.length (fun gg s33 wr => ∃ k : Nat, k ≤ l.length ∧ l.length - k ≤ gg ∧ s33 = .int .i64 k ∧ Aside (Grew ((w.alloc (.cells [.slice Ar rs.length cr, .slice A l.length c].toArray 35)).alloc (.cells [.func (.func 70) #[] #[], .func (.func 71) #[] #[], .func (.func 68) #[] #[], .func (.func 72) #[] #[]].toArray 81)) wr) ∧ Aside (∀ i (h : i < l.length), i < k → BrAlone l i h))
  case atStart => exact ⟨0, by omega, by omega, rfl, (show Aside _ from Grew.refl _), (show Aside _ from fun i h h2 => by omega)⟩
  case round =>
    obtain ⟨k, hk, hgk, rfl, BW, M⟩ := hrel
    have b0 := tree_cell (HBA.out.trans BW.out) 0 _ rfl
    have b1 := tree_cell (HBA.out.trans BW.out) 1 _ rfl
    by_cases hlt : k < l.length
    · have hltz : (k : Int) < (l.length : Int) := by omega
      have HN : RowKit.Hid (¬ (BrAlone l k hlt) → ¬ PR) := fun h h2 => h ((HD.out.1 h2).1 k hlt)
      have HY : RowKit.Hid ((BrAlone l k hlt) → ∀ i (h : i < l.length), i < k + 1 → BrAlone l i h) := fun h i hi h2 => by
        by_cases e : i = k
        · subst e; exact h
        · exact M.out i hi (by omega)
      have KK := Lib.hid (K1.out k hlt _ (HG0.out.trans (HBA.out.trans BW.out)))
      generalize (BrAlone l k hlt) = PK at HN HY KK
      go_wp2_with fail
      refine KK.out.mono ?_
      rintro e w1 ⟨n, rfl, hnn, g1⟩
      have HNN := Lib.hid hnn
      have HG1 := Lib.hid g1
      clear hnn g1
      dsimp only
      by_cases hz : n = 0
      · subst hz
        have Hy := Lib.hid (HY.out (HNN.out.1 rfl))
        go_wp2
        go_roundg (l.length - (k + 1))
        case measure => omega
        case rel => exact ⟨k + 1, by omega, by omega, by go_num, (show Aside _ from BW.out.trans HG1.out), (show Aside _ from Hy.out)⟩
      · have hz' : (n != 0) = true := by simpa using hz
        have Hz := Lib.hid hz
        have Hn : RowKit.Hid (¬ PR) := HN.out (fun h => Hz.out (HNN.out.2 h))
        clear hz
        go_wp2
        go_ret2
        exact RetIff2.no _ n Hz.out Hn.out ((HG0.out.trans (HBA.out.trans BW.out)).trans HG1.out)
    have hltz : ¬ (k : Int) < (l.length : Int) := by omega
    have HALL1 := Lib.hid (fun i h => M.out i h (by omega))
    have HB1 := Lib.hid (HBA.out.trans BW.out)
    have fn1 := newer_cell HB1.out 1 _ rfl
    obtain ⟨wr1, rfl⟩ : ∃ wr1 : World, wr1 = wr := ⟨_, rfl⟩
    clear M BW
    go_wp2
    rw [rounds_succ]
    go_wp2
    go_loopg [33] l.length (fun gg s33 wr => ∃ k : Nat, k ≤ l.length ∧ l.length - k ≤ gg ∧ s33 = .int .i64 k ∧ Aside (Grew wr1 wr) ∧ Aside (∀ i (h : i < l.length), i < k → BrPlaced l l[i]))
    case atStart => exact ⟨0, by omega, by omega, rfl, (show Aside _ from Grew.refl _), (show Aside _ from fun i h h2 => by omega)⟩
    case round =>
      obtain ⟨k, hk, hgk, rfl, BW, M⟩ := hrel
      have b0 := tree_cell (HB1.out.trans BW.out) 0 _ rfl
      have b1 := tree_cell (HB1.out.trans BW.out) 1 _ rfl
      by_cases hlt : k < l.length
      · have hltz : (k : Int) < (l.length : Int) := by omega
        have HN : RowKit.Hid (¬ (BrPlaced l l[k]) → ¬ PR) := fun h h2 => h ((HD.out.1 h2).2.1 k hlt)
        have HY : RowKit.Hid ((BrPlaced l l[k]) → ∀ i (h : i < l.length), i < k + 1 → BrPlaced l l[i]) := fun h i hi h2 => by
          by_cases e : i = k
          · subst e; exact h
          · exact M.out i hi (by omega)
        have KK := Lib.hid (K2.out k hlt _ (HG0.out.trans (HB1.out.trans BW.out)))
        generalize (BrPlaced l l[k]) = PK at HN HY KK
        go_wp2_with fail
        refine KK.out.mono ?_
        rintro e w1 ⟨n, rfl, hnn, g1⟩
        have HNN := Lib.hid hnn
        have HG1 := Lib.hid g1
        clear hnn g1
        dsimp only
        by_cases hz : n = 0
        · subst hz
          have Hy := Lib.hid (HY.out (HNN.out.1 rfl))
          go_wp2
          go_roundg (l.length - (k + 1))
          case measure => omega
          case rel => exact ⟨k + 1, by omega, by omega, by go_num, (show Aside _ from BW.out.trans HG1.out), (show Aside _ from Hy.out)⟩
        · have hz' : (n != 0) = true := by simpa using hz
          have Hz := Lib.hid hz
          have Hn : RowKit.Hid (¬ PR) := HN.out (fun h => Hz.out (HNN.out.2 h))
          clear hz
          go_wp2
          go_ret2
          exact RetIff2.no _ n Hz.out Hn.out ((HG0.out.trans (HB1.out.trans BW.out)).trans HG1.out)
      have hltz : ¬ (k : Int) < (l.length : Int) := by omega
      have HALL2 := Lib.hid (fun i h => M.out i h (by omega))
      have HB2 := Lib.hid (HB1.out.trans BW.out)
      have fn2 := newer_cell HB2.out 2 _ rfl
      obtain ⟨wr2, rfl⟩ : ∃ wr2 : World, wr2 = wr := ⟨_, rfl⟩
      clear M BW
      go_wp2
      rw [rounds_succ]
      go_wp2
      go_loopg [33] l.length (fun gg s33 wr => ∃ k : Nat, k ≤ l.length ∧ l.length - k ≤ gg ∧ s33 = .int .i64 k ∧ Aside (Grew wr2 wr) ∧ Aside (∀ i (h : i < l.length), i < k → sortI l[i].kids = kidsOf l l[i].id))
      case atStart => exact ⟨0, by omega, by omega, rfl, (show Aside _ from Grew.refl _), (show Aside _ from fun i h h2 => by omega)⟩
      case round =>
        obtain ⟨k, hk, hgk, rfl, BW, M⟩ := hrel
        have b0 := tree_cell (HB2.out.trans BW.out) 0 _ rfl
        have b1 := tree_cell (HB2.out.trans BW.out) 1 _ rfl
        by_cases hlt : k < l.length
        · have hltz : (k : Int) < (l.length : Int) := by omega
          have HN : RowKit.Hid (¬ (sortI l[k].kids = kidsOf l l[k].id) → ¬ PR) := fun h h2 => h ((HD.out.1 h2).2.2.1 k hlt)
          have HY : RowKit.Hid ((sortI l[k].kids = kidsOf l l[k].id) → ∀ i (h : i < l.length), i < k + 1 → sortI l[i].kids = kidsOf l l[i].id) := fun h i hi h2 => by
            by_cases e : i = k
            · subst e; exact h
            · exact M.out i hi (by omega)
          have KK := Lib.hid (K3.out k hlt _ (HG0.out.trans (HB2.out.trans BW.out)))
          generalize (sortI l[k].kids = kidsOf l l[k].id) = PK at HN HY KK
          go_wp2_with fail
          refine KK.out.mono ?_
          rintro e w1 ⟨n, rfl, hnn, g1⟩
          have HNN := Lib.hid hnn
          have HG1 := Lib.hid g1
          clear hnn g1
          dsimp only
          by_cases hz : n = 0
          · subst hz
            have Hy := Lib.hid (HY.out (HNN.out.1 rfl))
            go_wp2
            go_roundg (l.length - (k + 1))
            case measure => omega
            case rel => exact ⟨k + 1, by omega, by omega, by go_num, (show Aside _ from BW.out.trans HG1.out), (show Aside _ from Hy.out)⟩
          · have hz' : (n != 0) = true := by simpa using hz
            have Hz := Lib.hid hz
            have Hn : RowKit.Hid (¬ PR) := HN.out (fun h => Hz.out (HNN.out.2 h))
            clear hz
            go_wp2
            go_ret2
            exact RetIff2.no _ n Hz.out Hn.out ((HG0.out.trans (HB2.out.trans BW.out)).trans HG1.out)
        have hltz : ¬ (k : Int) < (l.length : Int) := by omega
        have HALL3 := Lib.hid (fun i h => M.out i h (by omega))
        have HB3 := Lib.hid (HB2.out.trans BW.out)
        have fn3 := newer_cell HB3.out 3 _ rfl
        obtain ⟨wr3, rfl⟩ : ∃ wr3 : World, wr3 = wr := ⟨_, rfl⟩
        clear M BW
        go_wp2
        rw [rounds_succ]
        have kj := KJ.out wr3 (HG0.out.trans HB3.out)
        have K4 := Lib.hid (KD.out HALL2.out)
        by_cases hS : sortI rs = kidsOf l 0
        case neg =>
          rw [decide_eq_false hS] at kj
          have KJ2 := Lib.hid kj
          have Hn : RowKit.Hid (¬ PR) := fun h => hS (HD.out.1 h).2.2.2.1
          clear kj hS
          go_wp2_with fail
          refine KJ2.out.mono ?_
          rintro e w1 ⟨rfl, g1⟩
          dsimp only
          go_wp2
          go_ret2
          exact RetIff2.no _ 10 (by decide) Hn.out ((HG0.out.trans HB3.out).trans g1)
        rw [decide_eq_true hS] at kj
        have KJ2 := Lib.hid kj
        have HSS := Lib.hid hS
        clear kj hS
        go_wp2_with fail
        refine KJ2.out.mono ?_
        rintro e w4 ⟨rfl, g4⟩
        have HB4 := Lib.hid (HB3.out.trans g4)
        have q0 := tree_cell HB4.out 0 _ rfl
        have q1 := tree_cell HB4.out 1 _ rfl
        clear g4
        dsimp only
        go_wp2
        go_loopg [33] l.length (fun gg s33 wr => ∃ k : Nat, k ≤ l.length ∧ l.length - k ≤ gg ∧ s33 = .int .i64 k ∧ Aside (Grew w4 wr) ∧ Aside (∀ i (h : i < l.length), i < k → BrDeep l l[i]))
        case atStart => exact ⟨0, by omega, by omega, rfl, (show Aside _ from Grew.refl _), (show Aside _ from fun i h h2 => by omega)⟩
        case round =>
          obtain ⟨k, hk, hgk, rfl, BW, M⟩ := hrel
          have b0 := tree_cell (HB4.out.trans BW.out) 0 _ rfl
          have b1 := tree_cell (HB4.out.trans BW.out) 1 _ rfl
          by_cases hlt : k < l.length
          · have hltz : (k : Int) < (l.length : Int) := by omega
            have HN : RowKit.Hid (¬ (BrDeep l l[k]) → ¬ PR) := fun h h2 => h ((HD.out.1 h2).2.2.2.2 k hlt)
            have HY : RowKit.Hid ((BrDeep l l[k]) → ∀ i (h : i < l.length), i < k + 1 → BrDeep l l[i]) := fun h i hi h2 => by
              by_cases e : i = k
              · subst e; exact h
              · exact M.out i hi (by omega)
            have KK := Lib.hid (K4.out k hlt _ (HG0.out.trans (HB4.out.trans BW.out)))
            generalize (BrDeep l l[k]) = PK at HN HY KK
            go_wp2_with fail
            refine KK.out.mono ?_
            rintro e w1 ⟨n, rfl, hnn, g1⟩
            have HNN := Lib.hid hnn
            have HG1 := Lib.hid g1
            clear hnn g1
            dsimp only
            by_cases hz : n = 0
            · subst hz
              have Hy := Lib.hid (HY.out (HNN.out.1 rfl))
              go_wp2
              go_roundg (l.length - (k + 1))
              case measure => omega
              case rel => exact ⟨k + 1, by omega, by omega, by go_num, (show Aside _ from BW.out.trans HG1.out), (show Aside _ from Hy.out)⟩
            · have hz' : (n != 0) = true := by simpa using hz
              have Hz := Lib.hid hz
              have Hn : RowKit.Hid (¬ PR) := HN.out (fun h => Hz.out (HNN.out.2 h))
              clear hz
              go_wp2
              go_ret2
              exact RetIff2.no _ n Hz.out Hn.out ((HG0.out.trans (HB4.out.trans BW.out)).trans HG1.out)
          have hltz : ¬ (k : Int) < (l.length : Int) := by omega
          have HALL4 := Lib.hid (fun i h => M.out i h (by omega))
          have Hy : RowKit.Hid PR := HD.out.2 ⟨HALL1.out, HALL2.out, HALL3.out, HSS.out, HALL4.out⟩
          have HWE := Lib.hid (HG0.out.trans (HB4.out.trans BW.out))
          go_wp2
          rw [rounds_succ]
          go_wp2
          go_ret2
          exact RetIff2.yes _ Hy.out HWE.out
end Go.Proofs.YtafncfomiolmgaaGreatDoor

/- tree: right, Find, walked. The conditions: the library's own variables hold what they must; the lists are short. -/
namespace Go.Proofs.YtafncfomiolmgaaGreatDoor
open Go.RowKit

/-- A call that answers whether P holds. -/
def RetB (P : Prop) (w : World) (e : Ending) (w' : World) : Prop := ∃ b : Bool, e = .returned (.bool b) ∧ (b = true ↔ P) ∧ Grew w w'
theorem tRight (rs : List Int) (l : List Br) (rv bv : Value) (w : World) (hE : Env w) (hr : SlI w rv rs) (hv : SlBr w bv l) (hf : FewBr l) (hrl : rs.length ≤ 1000000) :
    Calls Tryz.prog 162 #[.agg #[rv, bv]] w (RetB (RightT ⟨rs, l⟩) w) := by
  have K := Lib.hid (fun W (hW : Grew w W) => tCheck rs l rv bv W (hE.mono hW) (hr.mono hW) (hv.mono hW) hf hrl)
  clear hE hr hv hf hrl
  go_enter Tryz.func162, Tryz.ntmps162
  go_wp2_with fail
  refine (K.out _ ((Grew.refl w).alloc _)).mono ?_
  rintro e w1 ⟨i, n, rfl, hn, g⟩
  have HN := Lib.hid hn
  have HG := Lib.hid (((Grew.refl w).alloc _).trans g)
  clear hn g
  dsimp only
  cases hz : (n == 0)
  · go_wp2
    go_ret
    exact ⟨false, rfl, ⟨(fun h => by cases h), (fun h => by rw [HN.out.2 h] at hz; cases hz)⟩, HG.out⟩
  · go_wp2
    go_ret
    exact ⟨true, rfl, ⟨fun _ => HN.out.1 (by simpa using hz), fun _ => rfl⟩, HG.out⟩
def br0 : Br := ⟨0, 0, 0, ⟨#[]⟩, ⟨#[]⟩, []⟩
/-- How Find of a tree ends. -/
def TFindEnd (o : Option Br) (w : World) (e : Ending) (w' : World) : Prop :=
  e = .returned (.tuple #[.agg #[.int .i64 (o.getD br0).id, .int .i64 (o.getD br0).parent, .int .i64 (o.getD br0).level, .string (o.getD br0).title, .string (o.getD br0).mark], .bool o.isSome]) ∧ Grew w w'
set_option maxHeartbeats 2000000 in
theorem tFind (l : List Br) (id : Int) (rv bv : Value) (w : World) (hv : SlBr w bv l) : Calls Tryz.prog 36 #[.agg #[rv, bv], .int .i64 id] w (TFindEnd (brFind l id) w) := by
  have HV := Lib.hid hv
  have kI := fun W (hW : Grew w W) => tIndex l id rv bv W (HV.out.mono hW)
  cases ho : brFind l id with
  | none =>
    rw [brIdx_none ho] at kI
    have KI := Lib.hid kI
    clear kI ho hv
    go_enter Tryz.func36, Tryz.ntmps36
    go_wp2_with fail
    refine (KI.out _ (((Grew.refl w).alloc _).alloc _)).mono ?_
    rintro e w1 ⟨rfl, g1⟩
    have hz1 : w.heap.size + 1 < w1.heap.size := Nat.lt_of_lt_of_le (by simp) g1.size
    obtain ⟨hc1, hf1⟩ := g1.cells
    have HG1 := Lib.hid g1
    clear g1
    dsimp only
    go_wp2
    refine bodyPost_ret (v := .tuple #[.agg #[.int .i64 0, .int .i64 0, .int .i64 0, .string ⟨#[]⟩, .string ⟨#[]⟩], .bool false]) (by simp [results, Tryz.results36, go_sem, hc1]) rfl ⟨rfl, ?_⟩
    repeat (with_reducible refine Grew.setCell ?_ (by simp) _)
    exact (((Grew.refl w).alloc _).alloc _).trans HG1.out
  | some p =>
    obtain ⟨k, hk, ek, rfl⟩ := brIdx_some ho
    rw [ek] at kI
    obtain ⟨A, c, rfl, hlc, hc, hr⟩ := hv.open_
    unfold maxLen at hc
    obtain ⟨bb, off, rfl, hbk, hcell⟩ := hr (by omega)
    obtain ⟨kv, -, hcl⟩ := hcell k hk
    have KI := Lib.hid kI
    have HCL := Lib.hid hcl
    have hkz : (k : Int) < (l.length : Int) := by omega
    have h0z : (0 : Int) ≤ (k : Int) := by omega
    have hneg : ¬ (k : Int) < 0 := by omega
    generalize l[k] = y at HCL
    obtain ⟨yi, yp, yl, yt, ym, yk⟩ := y
    dsimp only at HCL
    clear kI ho hv ek hcell hcl hr
    go_enter Tryz.func36, Tryz.ntmps36
    go_wp2_with fail
    refine (KI.out _ (((Grew.refl w).alloc _).alloc _)).mono ?_
    rintro e w1 ⟨rfl, g1⟩
    have hz1 : w.heap.size + 1 < w1.heap.size := Nat.lt_of_lt_of_le (by simp) g1.size
    have hy1 : w.heap.size < w1.heap.size := by omega
    have HW1 := Lib.hid ((((Grew.refl w).alloc _).alloc _).trans g1)
    obtain ⟨c0, c1, c2, c3, c4, -⟩ := HCL.out w1 HW1.out
    obtain ⟨hc1, hf1⟩ := g1.cells
    clear g1
    dsimp only
    go_wp2
    refine bodyPost_ret (v := .tuple #[.agg #[.int .i64 yi, .int .i64 yp, .int .i64 yl, .string yt, .string ym], .bool true]) (by simp [results, Tryz.results36, go_sem, hc1]) rfl ⟨rfl, ?_⟩
    repeat (with_reducible refine Grew.setCell ?_ (by simp) _)
    exact HW1.out
end Go.Proofs.YtafncfomiolmgaaGreatDoor

/- authority: clone, own, Find, walked. No condition but the sizes that a slice can have. -/
namespace Go.Proofs.YtafncfomiolmgaaGreatDoor
open Go.RowKit

theorem own_slice {w : World} {base : Nat} {e : TypeId} {k : Nat} {v : Value} {n : Nat} {xs : List Value} (h : w.ownsRow base e k v n xs) : ∃ A c, v = .slice A n c := by
  rcases h.2 with ⟨rfl, rfl⟩ | ⟨g, cap, cur, rfl, _⟩
  · exact ⟨_, _, rfl⟩
  · exact ⟨_, _, rfl⟩
end Go.Proofs.YtafncfomiolmgaaGreatDoor

/- relation.Check, walked. The conditions: the library's own variables hold what they must; each authority has few names and successors. -/
namespace Go.Proofs.YtafncfomiolmgaaGreatDoor
open Go.RowKit

theorem keep_cell {W X : World} (g : Grew W X) {p : Addr} {v : Value} (h : W.cell? p = some v) : X.cell? p = some v := (g.cell (World.block_lt_of_cell? W _ h)).trans h
end Go.Proofs.YtafncfomiolmgaaGreatDoor

/- relation: asks, ranged, find, walked. The conditions: the library's own variables hold what they must; the lists are short. -/
namespace Go.Proofs.YtafncfomiolmgaaGreatDoor
open Go.RowKit

theorem ret_ib {i : Int} {a b : Bool} (h : a = b) : Ending.returned (.tuple #[.int .i64 i, .bool a]) = .returned (.tuple #[.int .i64 i, .bool b]) := by rw [h]
/-- Where a sorted list passes a thing. -/
def passes {α : Type} (p : α → Bool) (l : List α) : Nat := (l.takeWhile p).length
theorem passes_eq {α : Type} (p : α → Bool) (l : List α) (i : Nat) (hi : i ≤ l.length) (h1 : ∀ t (h : t < l.length), t < i → p l[t] = true) (h2 : ∀ t (h : t < l.length), i ≤ t → p l[t] = false) : passes p l = i := by
  unfold passes
  induction l generalizing i with
  | nil => simp at hi; simp [hi]
  | cons x r ih =>
    cases i with
    | zero =>
      have := h2 0 (by simp) (by omega)
      simp only [List.getElem_cons_zero] at this
      simp [this]
    | succ i =>
      have := h1 0 (by simp) (by omega)
      simp only [List.getElem_cons_zero] at this
      rw [List.takeWhile_cons, if_pos this, List.length_cons, ih i (by simpa using hi) (fun t h ht => h1 (t + 1) (Nat.succ_lt_succ h) (by omega)) (fun t h ht => h2 (t + 1) (Nat.succ_lt_succ h) (by omega))]
/-- Whether the place is that of the thing itself. -/
def hitB {α : Type} (q : α → Bool) (l : List α) (i : Nat) : Bool := match l[i]? with
  | none => false
  | some y => q y
end Go.Proofs.YtafncfomiolmgaaGreatDoor

/- tree.at, walked: the binary search of a unit. The condition: the units ascend, and are not too many. -/
namespace Go.Proofs.YtafncfomiolmgaaGreatDoor
open Go.RowKit

theorem tAt1 (y : BrC) (id : Int) (w : World) : Calls Tryz.prog 163 #[y.agg, .int .i64 id] w fun e w' => e = .returned (.int .i64 (Lib.compareInt y.id id)) ∧ Grew w w' := by
  have h1 := Tryz.cmp_Compare_int y.id id
  unfold BrC.agg
  generalize Lib.compareInt y.id id = r at h1
  have H1 := Lib.hid h1
  clear h1
  go_enter Tryz.func163, Tryz.ntmps163
  go_wp2_with fail
  refine (H1.out _).mono ?_
  rintro e w1 ⟨rfl, rfl⟩
  dsimp only
  go_wp2
  go_ret
  exact ⟨rfl, (Grew.refl w).alloc _⟩
def cmpId (id : Int) (b : Br) : Int := Lib.compareInt b.id id
set_option maxHeartbeats 2000000 in
theorem searchB (l : List Br) (id : Int) (v : Value) (w : World) (hv : SlBr w v l) (hlen : l.length ≤ 1000000)
    (hm : ∀ i j (hi : i < l.length) (hj : j < l.length), i ≤ j → cmpId id l[j] < 0 → cmpId id l[i] < 0) :
    Calls Tryz.prog 131 #[v, .int .i64 id, .func (.func 163) #[] #[]] w fun e w' =>
      e = .returned (.tuple #[.int .i64 (passes (fun y => decide (cmpId id y < 0)) l), .bool (hitB (fun y => decide (cmpId id y = 0)) l (passes (fun y => decide (cmpId id y < 0)) l))]) ∧ Grew w w' := by
  obtain ⟨A, c, rfl, hlc, hcap, hr⟩ := hv.open_
  have HR := Lib.hid hr
  have HM := Lib.hid hm
  have HP := Lib.hid (passes_eq (fun y => decide (cmpId id y < 0)) l)
  clear hv hr hm hcap hlc
  generalize passes (fun y => decide (cmpId id y < 0)) l = P0 at HP ⊢
  generalize hh0 : hitB (fun y => decide (cmpId id y = 0)) l P0 = hb0
  have HH0 := Lib.hid hh0
  clear hh0
  go_enter Tryz.func131, Tryz.ntmps131
  go_wp2
  go_loopg [9, 10] l.length (fun gg s9 s10 wr => ∃ i j : Nat, i ≤ j ∧ j ≤ l.length ∧ j - i ≤ gg ∧ s9 = .int .i64 i ∧ s10 = .int .i64 j ∧ Aside (Grew w wr) ∧ Aside (∀ t (h : t < l.length), t < i → cmpId id l[t] < 0) ∧ Aside (∀ t (h : t < l.length), j ≤ t → ¬ cmpId id l[t] < 0))
  case atStart => exact ⟨0, l.length, by omega, by omega, by omega, rfl, rfl, (show Aside _ from Grew.refl _), (show Aside _ from fun t h ht => by omega), (show Aside _ from fun t h ht => by omega)⟩
  case round =>
    obtain ⟨i, j, hij, hj, hgk, rfl, rfl, BW, M1, M2⟩ := hrel
    by_cases hlt : i < j
    · have hltz : (i : Int) < (j : Int) := by omega
      have hmid : ((i : Int) + (j : Int)) / 2 = (((i + j) / 2 : Nat) : Int) := by omega
      have hk1 : i ≤ (i + j) / 2 := by omega
      have hk2 : (i + j) / 2 < j := by omega
      have hkl : (i + j) / 2 < l.length := by omega
      have hkz : (i : Int) + (j : Int) < 2 * (l.length : Int) := by omega
      have hkz2 : ((i : Int) + (j : Int)) / 2 < (l.length : Int) := by omega
      have h0z : (0 : Int) ≤ ((i : Int) + (j : Int)) / 2 := by omega
      have htn : (((i : Int) + (j : Int)) / 2).toNat = (i + j) / 2 := by omega
      obtain ⟨b, off, rfl, hb, hcell⟩ := HR.out (by omega)
      obtain ⟨kv, hkv, hcl⟩ := hcell ((i + j) / 2) hkl
      obtain ⟨c0, c1, c2, c3, c4, c5⟩ := hcl wr BW.out
      obtain ⟨Az, cz, rfl, -, -, -⟩ := hkv.open_
      have HN1 : RowKit.Hid (cmpId id l[(i + j) / 2] < 0 → ∀ t (h : t < l.length), t < (i + j) / 2 + 1 → cmpId id l[t] < 0) := fun h t ht htk => HM.out t _ ht hkl (by omega) h
      have HN2 : RowKit.Hid (¬ cmpId id l[(i + j) / 2] < 0 → ∀ t (h : t < l.length), (i + j) / 2 ≤ t → ¬ cmpId id l[t] < 0) := fun h t ht htk h3 => h (HM.out _ t hkl ht htk h3)
      have HMID := Lib.hid hmid
      clear hcell hcl hkv hmid
      unfold cmpId at HN1 HN2
      generalize l[(i + j) / 2] = y at c0 c1 c2 c3 c4 c5 HN1 HN2
      obtain ⟨yi, yp, yl, yt, ym, yk⟩ := y
      dsimp only at c0 c1 c2 c3 c4 c5 HN1 HN2
      have kC := fun W => tAt1 ⟨yi, yp, yl, yt, ym, .slice Az yk.length cz⟩ id W
      dsimp only [BrC.agg] at kC
      generalize Lib.compareInt yi id = r at kC HN1 HN2
      have KC := Lib.hid kC
      clear kC
      by_cases hneg : r < 0
      · have Hn := Lib.hid (HN1.out hneg)
        go_wp2_with fail
        refine (KC.out _).mono ?_
        rintro e w1 ⟨rfl, g1⟩
        have HG1 := Lib.hid g1
        clear g1
        dsimp only
        go_wp2
        rw [HMID.out]
        go_roundg (j - ((i + j) / 2 + 1))
        case measure => omega
        case rel => exact ⟨(i + j) / 2 + 1, j, by omega, by omega, by omega, by go_num, rfl, (show Aside _ from BW.out.trans HG1.out), (show Aside _ from Hn.out), M2⟩
      · have hneg' : decide (r < 0) = false := by simpa using hneg
        have Hn := Lib.hid (HN2.out hneg)
        go_wp2_with fail
        refine (KC.out _).mono ?_
        rintro e w1 ⟨rfl, g1⟩
        have HG1 := Lib.hid g1
        clear g1
        dsimp only
        go_wp2
        rw [HMID.out]
        go_roundg ((i + j) / 2 - i)
        case measure => omega
        case rel => exact ⟨i, (i + j) / 2, by omega, by omega, by omega, rfl, rfl, (show Aside _ from BW.out.trans HG1.out), M1, (show Aside _ from Hn.out)⟩
    · have hltz : ¬ (i : Int) < (j : Int) := by omega
      obtain rfl : i = j := by omega
      have hP := HP.out i hj (fun t h ht => by simpa using M1.out t h ht) (fun t h ht => by simpa using M2.out t h ht)
      subst hP
      by_cases hil : P0 < l.length
      · have hilz : (P0 : Int) < (l.length : Int) := by omega
        have h0z : (0 : Int) ≤ (P0 : Int) := by omega
        obtain ⟨b, off, rfl, hb, hcell⟩ := HR.out (by omega)
        obtain ⟨kv, hkv, hcl⟩ := hcell P0 hil
        obtain ⟨c0, c1, c2, c3, c4, c5⟩ := hcl wr BW.out
        obtain ⟨Az, cz, rfl, -, -, -⟩ := hkv.open_
        have hh : (cmpId id l[P0] == 0) = hb0 := by
          rw [← HH0.out]
          simp only [hitB, List.getElem?_eq_getElem hil]
          rfl
        unfold cmpId at hh
        clear hcell hcl hkv
        generalize l[P0] = y at c0 c1 c2 c3 c4 c5 hh
        obtain ⟨yi, yp, yl, yt, ym, yk⟩ := y
        dsimp only at c0 c1 c2 c3 c4 c5 hh
        have kC := fun W => tAt1 ⟨yi, yp, yl, yt, ym, .slice Az yk.length cz⟩ id W
        dsimp only [BrC.agg] at kC
        generalize Lib.compareInt yi id = r at kC hh
        have KC := Lib.hid kC
        have HHE := Lib.hid hh
        clear kC hh
        go_wp2_with fail
        refine (KC.out _).mono ?_
        rintro e w1 ⟨rfl, g1⟩
        have HG1 := Lib.hid g1
        clear g1
        dsimp only
        go_wp2
        go_ret2
        exact ⟨ret_ib HHE.out, BW.out.trans HG1.out⟩
      · have hilz : decide ((P0 : Int) < (l.length : Int)) = false := by simp; omega
        have hh : false = hb0 := by rw [← HH0.out]; simp [hitB, hil]
        have HHE := Lib.hid hh
        clear hh
        go_wp2
        go_ret2
        exact ⟨ret_ib HHE.out, BW.out⟩
theorem tAt (l : List Br) (id : Int) (rv bv : Value) (w : World) (hv : SlBr w bv l) (hlen : l.length ≤ 1000000)
    (hm : ∀ i j (hi : i < l.length) (hj : j < l.length), i ≤ j → cmpId id l[j] < 0 → cmpId id l[i] < 0) :
    Calls Tryz.prog 118 #[.agg #[rv, bv], .int .i64 id] w fun e w' =>
      e = .returned (.tuple #[.int .i64 (passes (fun y => decide (cmpId id y < 0)) l), .bool (hitB (fun y => decide (cmpId id y = 0)) l (passes (fun y => decide (cmpId id y < 0)) l))]) ∧ Grew w w' := by
  have K := Lib.hid (fun W (hW : Grew w W) => searchB l id bv W (hv.mono hW) hlen hm)
  generalize hitB (fun y => decide (cmpId id y = 0)) l (passes (fun y => decide (cmpId id y < 0)) l) = hb at K ⊢
  generalize passes (fun y => decide (cmpId id y < 0)) l = P0 at K ⊢
  clear hv hm
  go_enter Tryz.func118, Tryz.ntmps118
  go_wp2_with fail
  refine (K.out _ ((Grew.refl w).alloc _)).mono ?_
  rintro e w1 ⟨rfl, g1⟩
  dsimp only
  go_wp2
  go_ret2
  exact ⟨rfl, ((Grew.refl w).alloc _).trans g1⟩
end Go.Proofs.YtafncfomiolmgaaGreatDoor

/- tree.known on a right tree, walked. The conditions: the library's own variables hold what they must; the lists are short. -/
namespace Go.Proofs.YtafncfomiolmgaaGreatDoor
open Go.RowKit

theorem ids_asc {l : List Br} (h : ∀ i (h : i < l.length), BrAlone l i h) : ∀ i j (hi : i < l.length) (hj : j < l.length), i < j → l[i].id < l[j].id := by
  intro i j hi hj hij
  induction j with
  | zero => omega
  | succ j ih =>
    have h1 := (h (j + 1) hj).2.2.1 (by omega)
    simp only [Nat.add_sub_cancel] at h1
    by_cases e : i = j
    · subst e; exact h1
    · have := ih (by omega) (by omega)
      omega
theorem cmpId_lt (id : Int) (b : Br) : cmpId id b < 0 ↔ b.id < id := by
  unfold cmpId Lib.compareInt
  split
  · simp [*]
  · split <;> simp <;> omega
theorem cmpId_eq (id : Int) (b : Br) : cmpId id b = 0 ↔ b.id = id := by
  unfold cmpId Lib.compareInt
  split
  · simp; omega
  · split <;> simp <;> omega
theorem cmpId_mono {l : List Br} (h : ∀ i (h : i < l.length), BrAlone l i h) (id : Int) : ∀ i j (hi : i < l.length) (hj : j < l.length), i ≤ j → cmpId id l[j] < 0 → cmpId id l[i] < 0 := by
  intro i j hi hj hij hc
  rw [cmpId_lt] at hc ⊢
  by_cases e : i = j
  · subst e; exact hc
  · have := ids_asc h i j hi hj (by omega)
    omega
/-- On ascending units the place that the search finds is the unit's own. -/
theorem at_some {l : List Br} (h : ∀ i (h : i < l.length), BrAlone l i h) (id : Int) (k : Nat) (hk : k < l.length) (hid : l[k].id = id) : passes (fun y => decide (cmpId id y < 0)) l = k ∧ hitB (fun y => decide (cmpId id y = 0)) l k = true := by
  constructor
  · refine passes_eq _ l k (by omega) (fun t ht htk => ?_) (fun t ht htk => ?_)
    · have := ids_asc h t k ht hk htk
      simp only [decide_eq_true_eq, cmpId_lt]
      omega
    · simp only [decide_eq_false_iff_not, cmpId_lt]
      by_cases e : k = t
      · subst e; omega
      · have := ids_asc h k t hk ht (by omega)
        omega
  · simp only [hitB, List.getElem?_eq_getElem hk, decide_eq_true_eq, cmpId_eq]
    exact hid
theorem at_none {l : List Br} (id : Int) (hf : brFind l id = none) (k : Nat) : hitB (fun y => decide (cmpId id y = 0)) l k = false := by
  unfold hitB
  cases hk : l[k]? with
  | none => rfl
  | some y =>
    have hm : y ∈ l := List.mem_of_getElem? hk
    have := List.find?_eq_none.1 hf y hm
    simp only [decide_eq_false_iff_not, cmpId_eq]
    simpa using this
def knownF (l : List Br) (ids : List Int) : Int := if ids.all (fun id => (brFind l id).isSome) then 0 else 7
theorem hit_find {l : List Br} (h : ∀ i (h : i < l.length), BrAlone l i h) (id : Int) : hitB (fun y => decide (cmpId id y = 0)) l (passes (fun y => decide (cmpId id y < 0)) l) = (brFind l id).isSome := by
  cases ho : brFind l id with
  | none => exact at_none id ho _
  | some b =>
    obtain ⟨k, hk, _, e⟩ := brIdx_some ho
    have hid : l[k].id = id := by
      rw [e]
      have := List.find?_some ho
      simpa using this
    obtain ⟨h1, h2⟩ := at_some h id k hk hid
    rw [h1, h2]
    rfl
set_option maxHeartbeats 2000000 in
theorem tKnown (rs : List Int) (l : List Br) (ids : List Int) (rv bv kv : Value) (w : World) (hE : Env w) (hr : SlI w rv rs) (hv : SlBr w bv l) (hk : SlI w kv ids) (hf : FewBr l) (hrl : rs.length ≤ 1000000) (hT : RightT ⟨rs, l⟩) :
    Calls Tryz.prog 117 #[.agg #[rv, bv], kv] w fun e w' => e = .returned (.int .i64 (knownF l ids)) ∧ Grew w w' := by
  have KR := Lib.hid (fun W (hW : Grew w W) => tRight rs l rv bv W (hE.mono hW) (hr.mono hW) (hv.mono hW) hf hrl)
  have KA := Lib.hid (fun id W (hW : Grew w W) => tAt l id rv bv W (hv.mono hW) hf.1 (cmpId_mono hT.2.1 id))
  have HF := Lib.hid (fun id => hit_find hT.2.1 id)
  have HT := Lib.hid hT
  obtain ⟨Ab, cb, rfl, -, -, -⟩ := hv.open_
  obtain ⟨A, c, rfl, hlc, hc, hkr⟩ := hk.open_
  unfold maxLen at hc
  have HK := Lib.hid hkr
  obtain ⟨Ar, cr, rfl, -, -, -⟩ := hr.open_
  clear hE hr hv hk hf hrl hT hkr
  generalize hKF : knownF l ids = R
  have HKF := Lib.hid hKF
  clear hKF
  go_enter Tryz.func117, Tryz.ntmps117
  go_wp2_with fail
  refine (KR.out _ ((Grew.refl w).alloc _)).mono ?_
  rintro e w1 ⟨bb, rfl, hbb, g1⟩
  obtain rfl := hbb.2 HT.out
  have HG1 := Lib.hid g1
  clear hbb g1
  dsimp only
  go_wp2
  go_loopg [14] ids.length (fun gg s14 wr => ∃ k : Nat, k ≤ ids.length ∧ ids.length - k ≤ gg ∧ s14 = .int .i64 k ∧ Aside (Grew (w.alloc (.cells [.slice Ar rs.length cr, .slice Ab l.length cb].toArray 35)) wr) ∧ Aside (∀ i (h : i < ids.length), i < k → (brFind l ids[i]).isSome = true))
  case atStart => exact ⟨0, by omega, by omega, rfl, (show Aside _ from HG1.out), (show Aside _ from fun i h h2 => by omega)⟩
  case round =>
    obtain ⟨k, hkk, hgk, rfl, BW, M⟩ := hrel
    have HGW := Lib.hid (((Grew.refl w).alloc _).trans BW.out)
    by_cases hlt : k < ids.length
    case neg =>
      have hltz : ¬ (k : Int) < (ids.length : Int) := by omega
      have hR : R = 0 := by
        rw [← HKF.out, knownF, if_pos]
        rw [List.all_eq_true]
        intro x hx
        obtain ⟨i, hi, rfl⟩ := List.mem_iff_getElem.1 hx
        exact M.out i hi (by omega)
      have HRR := Lib.hid hR
      clear hR
      go_wp2
      go_ret
      exact ⟨congrArg (fun z => Ending.returned (Value.int .i64 z)) HRR.out.symm, HGW.out⟩
    have hltz : (k : Int) < (ids.length : Int) := by omega
    have h0z : (0 : Int) ≤ (k : Int) := by omega
    obtain ⟨b, off, rfl, hb, hcell⟩ := HK.out (by omega)
    have c0 := hcell wr HGW.out k hlt
    have b0 := new_cell BW.out 0 _ rfl
    have b1 := new_cell BW.out 1 _ rfl
    have kA := KA.out ids[k] wr HGW.out
    rw [HF.out ids[k]] at kA
    have HBAD : RowKit.Hid ((brFind l ids[k]).isSome = false → R = 7) := fun h => by
      rw [← HKF.out, knownF, if_neg]
      rw [List.all_eq_true]
      intro hall
      have := hall ids[k] (List.getElem_mem hlt)
      rw [h] at this
      cases this
    have HST : RowKit.Hid ((brFind l ids[k]).isSome = true → ∀ i (h : i < ids.length), i < k + 1 → (brFind l ids[i]).isSome = true) := fun h i hi h2 => by
      by_cases e : i = k
      · subst e; exact h
      · exact M.out i hi (by omega)
    generalize (brFind l ids[k]).isSome = q at kA HBAD HST
    generalize ((passes (fun y => decide (cmpId ids[k] y < 0)) l : Nat) : Int) = pp at kA
    generalize ids[k] = x at c0 kA
    have KAA := Lib.hid kA
    clear hcell kA
    go_wp2_with fail
    refine KAA.out.mono ?_
    rintro e w2 ⟨rfl, g2⟩
    have HG2 := Lib.hid g2
    clear g2
    dsimp only
    cases q with
    | false =>
      have HR7 := Lib.hid (HBAD.out rfl)
      go_wp2
      go_ret
      exact ⟨congrArg (fun z => Ending.returned (Value.int .i64 z)) HR7.out.symm, HGW.out.trans HG2.out⟩
    | true =>
      have Hs := Lib.hid (HST.out rfl)
      go_wp2
      go_roundg (ids.length - (k + 1))
      case measure => omega
      case rel => exact ⟨k + 1, by omega, by omega, by go_num, (show Aside _ from BW.out.trans HG2.out), (show Aside _ from Hs.out)⟩
end Go.Proofs.YtafncfomiolmgaaGreatDoor

/- tree.path on a right tree: its plain form. No condition. -/
namespace Go.Proofs.YtafncfomiolmgaaGreatDoor
open Go.RowKit

/-- The units on the way from one to the top. -/
def upIds (l : List Br) : Nat → Br → List Int
  | 0, b => [b.id]
  | n + 1, b => if b.parent = 0 then [b.id] else match brFind l b.parent with
    | none => [b.id]
    | some p => b.id :: upIds l n p
theorem upIds_top (l : List Br) (n : Nat) (b : Br) (h : b.parent = 0) : upIds l n b = [b.id] := by cases n <;> simp [upIds, h]
theorem upIds_up (l : List Br) (n : Nat) (b p : Br) (h : b.parent ≠ 0) (hp : brFind l b.parent = some p) : upIds l (n + 1) b = b.id :: upIds l n p := by simp [upIds, h, hp]
open Go.Sort in
theorem grew_putI {w0 w1 : World} {blk off : Nat} (hb : w0.heap.size ≤ blk) (hg : Grew w0 w1) (d : Array Int) (n : Nat) : Grew w0 (putRow (Value.int .i64) (Sort.ahead w1 n) blk off d) := by
  have := grew_sortedI (off := off) hb hg d n #[]
  rwa [grow_empty] at this
end Go.Proofs.YtafncfomiolmgaaGreatDoor
