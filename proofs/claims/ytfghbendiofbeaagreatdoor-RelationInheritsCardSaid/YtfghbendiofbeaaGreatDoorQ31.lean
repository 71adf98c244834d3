/- Lemmas on what the functions of the program and of the library compute: RE3, RE4, RE5, RE6. The conditions stand at each. -/
import Derived.Test.YtfghbendiofbeaaGreatDoorQ30
import Derived.Test.YtfghbendiofbeaaGreatDoorQ2
import Derived.Deep.RegionHeld3
import Derived.Deep.DeepCutAuto
import Derived.Test.YtfghbendiofbeaaGreatDoorQ27
import Derived.Test.YtfghbendiofbeaaGreatDoorQ28
import Derived.Test.YtfghbendiofbeaaGreatDoorQ10
import Derived.Test.YtfghbendiofbeaaGreatDoorQ29
import Derived.Test.YtfghbendiofbeaaGreatDoorQ23
/- The reference's test of a list of children, walked. The condition: the lists are short. -/
namespace Go.Proofs.YtfghbendiofbeaaGreatDoor
open Go.RowKit

instance (l : List Br) (n p : Int) : Decidable (∃ b, brFind l n = some b ∧ b.parent = p) :=
  decidable_of_iff (((brFind l n).map fun b => decide (b.parent = p)) = some true) (by cases brFind l n <;> simp)
def KidAt (l : List Br) (ks : List Int) (p : Int) (i : Nat) (h : i < ks.length) : Prop := (∃ b, brFind l ks[i] = some b ∧ b.parent = p) ∧ ∀ j (hj : j < ks.length), j < i → ks[j] ≠ ks[i]
theorem heldKid (w1 W : World) (p q r : Addr) {x y z : Value} (h : w1.cell? p = some x) (h2 : w1.cell? q = some y) (h3 : w1.cell? r = some z) (g : Grew w1 W) : W.cell? p = some x ∧ W.cell? q = some y ∧ W.cell? r = some z ∧ Grew w1 W := ⟨keep_cell g h, keep_cell g h2, keep_cell g h3, g⟩
theorem kid_iff {l : List Br} {n p : Int} : (∃ b, brFind l n = some b ∧ b.parent = p) ↔ (brFind l n).isSome = true ∧ ((brFind l n).getD br0).parent = p := by
  cases brFind l n <;> simp
theorem set5_one {w : World} {U : Nat} {v0 v1 v2 v3 v4 z1 : Value} (h : w.cell? ⟨U, 1, none⟩ = some z1) : (((((w.setCell ⟨U, 0, none⟩ v0).setCell ⟨U, 1, none⟩ v1).setCell ⟨U, 2, none⟩ v2).setCell ⟨U, 3, none⟩ v3).setCell ⟨U, 4, none⟩ v4).cell? ⟨U, 1, none⟩ = some v1 := by
  rw [World.cell?_setCell_other _ _ _ _ (by simp), World.cell?_setCell_other _ _ _ _ (by simp), World.cell?_setCell_other _ _ _ _ (by simp)]
  exact World.cell?_setCell_same' _ _ _ (by rw [World.cell?_setCell_other _ _ _ _ (by simp), h]; rfl)
set_option maxHeartbeats 16000000 in
set_option maxRecDepth 100000 in
theorem refKids (l : List Br) (ks : List Int) (p : Int) (rv bv kv : Value) (w : World) (hv : SlBr w bv l) (hk : SlI w kv ks) (hl : l.length ≤ 1000000) (hkl : ks.length ≤ 1000000) :
    Calls Tryz.prog 133 #[.agg #[rv, bv], kv, .int .i64 p] w (RetB (KidsOk l ks p) w) := by
  have HD : RowKit.Hid (KidsOk l ks p ↔ (∀ i (h : i < ks.length), KidAt l ks p i h) ∧ (kidsOf l p).length = ks.length) := Iff.rfl
  have HF := Lib.hid (fun n W (hW : Grew w W) => refFind19 l n rv bv W (hv.mono hW))
  have HT := Lib.hid (take_kids l p)
  have HKL := Lib.hid (kids_len l p)
  generalize KidsOk l ks p = PA at HD ⊢
  obtain ⟨A, c, rfl, hlc, hc, hr⟩ := hv.open_
  obtain ⟨B, d, rfl, hld, hd, hrk⟩ := hk.open_
  unfold maxLen at hc hd
  have HR := Lib.hid hr
  have HRK := Lib.hid hrk
  clear hr hrk hv hk
  go_enter Tryz.func133, Tryz.ntmps133
  go_wp2
  go_loopg [7, 8] l.length (fun gg s7 s8 wr => ∃ k : Nat, k ≤ l.length ∧ l.length - k ≤ gg ∧ s8 = .int .i64 k ∧ s7 = .int .i64 ((kidsOf (l.take k) p).length : Nat) ∧ Aside (Grew (w.alloc (.cells [rv, .slice A l.length c].toArray 51)) wr))
  case atStart => exact ⟨0, by omega, by omega, rfl, by simp [kidsOf], (show Aside _ from Grew.refl _)⟩
  case round =>
    obtain ⟨k, hk, hgk, rfl, rfl, BW⟩ := hrel
    have GW := Lib.hid (((Grew.refl w).alloc _).trans BW.out)
    have t1 := new_cell BW.out 1 _ rfl
    by_cases hlt : k < l.length
    · have hltz : (k : Int) < (l.length : Int) := by omega
      have h0z : (0 : Int) ≤ (k : Int) := by omega
      obtain ⟨b, off, rfl, hb, hcell⟩ := HR.out (by omega)
      obtain ⟨kv, -, hcl⟩ := hcell k hlt
      obtain ⟨-, c1, -⟩ := hcl wr GW.out
      have ht := HT.out k hlt
      have hn := HKL.out k
      generalize hM : kidsOf (l.take (k + 1)) p = M at ht
      have HM := Lib.hid hM
      clear hM hcell hcl
      generalize kidsOf (l.take k) p = N at ht hn
      generalize l[k] = y at c1 ht
      obtain ⟨yi, yp, yl, yt, ym, yk⟩ := y
      dsimp only at c1 ht
      have HT2 := Lib.hid ht
      clear ht
      cases hb : (yp == p)
      · have hE : M = N := by rw [HT2.out, hb]; simp
        subst hE
        go_wp2
        go_roundg (l.length - (k + 1))
        case measure => omega
        case rel => exact ⟨k + 1, by omega, by omega, by go_num, by rw [HM.out], (show Aside _ from BW.out)⟩
      · have hE := Lib.hid (show M.length = N.length + 1 by rw [HT2.out, hb]; simp)
        go_wp2
        go_roundg (l.length - (k + 1))
        case measure => omega
        case rel => exact ⟨k + 1, by omega, by omega, by go_num, by rw [HM.out, hE.out]; go_num, (show Aside _ from BW.out)⟩
    have hltz : ¬ (k : Int) < (l.length : Int) := by omega
    obtain rfl : k = l.length := by omega
    rw [List.take_length]
    generalize (kidsOf l p).length = NN at HD ⊢
    go_wp2
    clear t1
    go_loopg [9] ks.length (fun gg s9 wr => ∃ k : Nat, k ≤ ks.length ∧ ks.length - k ≤ gg ∧ s9 = .int .i64 k ∧ Aside (Grew (w.alloc (.cells [rv, .slice A l.length c].toArray 51)) wr) ∧ Aside (∀ j (h : j < ks.length), j < k → KidAt l ks p j h))
    case atStart => exact ⟨0, by omega, by omega, rfl, (show Aside _ from BW.out), (show Aside _ from fun j h h2 => absurd h2 (Nat.not_lt_zero _))⟩
    case round =>
      obtain ⟨k, hk, hgk, rfl, BW, M⟩ := hrel
      have GW := Lib.hid (((Grew.refl w).alloc _).trans BW.out)
      by_cases hlt : k < ks.length
      case neg =>
        have hltz : ¬ (k : Int) < (ks.length : Int) := by omega
        have HALL : RowKit.Hid (∀ j (h : j < ks.length), KidAt l ks p j h) := fun j h => M.out j h (by omega)
        by_cases hN : NN = ks.length
        · have hNz : ((NN : Int) == (ks.length : Int)) = true := by simp; omega
          have Hy := Lib.hid (HD.out.2 ⟨HALL.out, hN⟩)
          clear hN M
          go_wp2
          go_ret
          exact ⟨true, rfl, ⟨fun _ => Hy.out, fun _ => rfl⟩, GW.out⟩
        · have hNz : ((NN : Int) == (ks.length : Int)) = false := by simp; omega
          have Hn : RowKit.Hid (¬ PA) := fun h => hN (HD.out.1 h).2
          clear hN M
          go_wp2
          go_ret
          exact ⟨false, rfl, ⟨(fun h => by cases h), fun h => absurd h Hn.out⟩, GW.out⟩
      have hltz : (k : Int) < (ks.length : Int) := by omega
      have h0z : (0 : Int) ≤ (k : Int) := by omega
      obtain ⟨b, off, rfl, hb, hcell⟩ := HRK.out (by omega)
      have e0 := hcell wr GW.out k hlt
      have a0 := new_cell BW.out 0 _ rfl
      have a1 := new_cell BW.out 1 _ rfl
      have kF := fun W hW => HF.out ks[k] W hW
      have HKA : RowKit.Hid (KidAt l ks p k hlt ↔ ((brFind l ks[k]).isSome = true ∧ ((brFind l ks[k]).getD br0).parent = p) ∧ ∀ j (hj : j < ks.length), j < k → ks[j] ≠ ks[k]) := by
        show _ ↔ _
        unfold KidAt
        rw [kid_iff]
      have HN : RowKit.Hid (¬ KidAt l ks p k hlt → ¬ PA) := fun h h2 => h ((HD.out.1 h2).1 k hlt)
      have HY : RowKit.Hid (KidAt l ks p k hlt → ∀ j (h : j < ks.length), j < k + 1 → KidAt l ks p j h) := fun h j hj h2 => by
        by_cases e : j = k
        · subst e; exact h
        · exact M.out j hj (by omega)
      generalize KidAt l ks p k hlt = KA at HKA HN HY
      have HCK := Lib.hid hcell
      generalize hx : ks[k] = x at e0 kF HKA
      have HX := Lib.hid hx
      clear hx hcell M
      unfold TFindEnd at kF
      generalize hO : (brFind l x).isSome = os at kF HKA
      generalize (brFind l x).getD br0 = y at kF HKA
      obtain ⟨yi, yp, yl, yt, ym, yk⟩ := y
      dsimp only at kF HKA
      have KF := Lib.hid kF
      clear kF hO
      go_wp2
      have HGK := Lib.hid BW.out.size
      have hsz : w.heap.size < wr.heap.size := by have := BW.out.size; simp at this; omega
      go_cut [10, 11] (fun s10 s11 wc => ∃ U : Nat, s10 = .pointer (some ⟨U, 0, none⟩) ∧ s11 = .bool os ∧ Aside (wc.cell? ⟨U, 1, none⟩ = some (.int .i64 yp)) ∧ Aside (Grew wr wc))
      case first =>
        as_aux_lemma =>
          go_region_held3 (fun W => W.cell? ⟨w.heap.size, 0, none⟩ = some rv ∧ W.cell? ⟨w.heap.size, 1, none⟩ = some (.slice A l.length c) ∧ W.cell? ⟨b, off + k, none⟩ = some (.int .i64 x) ∧ Grew wr W) (refine heldKid wr _ _ _ _ a0 a1 e0 (by repeat (first | exact Grew.refl wr | exact G1.out | refine Grew.drew ?_ | refine Grew.alloc ?_ _ | refine Grew.setCell ?_ (by simp <;> omega) _))) ((go_at_call 134; refine (KF.out _ (GW.out.trans (by repeat (first | exact Grew.refl wr | refine Grew.drew ?_ | refine Grew.alloc ?_ _)))).mono ?_; rintro e w1 ⟨rfl, g1⟩; have G1 := Lib.hid (show Grew wr w1 from Grew.trans (by repeat (first | exact Grew.refl wr | refine Grew.drew ?_ | refine Grew.alloc ?_ _)) g1); (try have z0 := new_cell (w := wr) (t := 57) (cs := [.int .i64 0, .int .i64 0, .int .i64 0, .string ⟨#[]⟩, .string ⟨#[]⟩]) (Grew.trans (show Grew (wr.alloc (.cells [.int .i64 0, .int .i64 0, .int .i64 0, .string ⟨#[]⟩, .string ⟨#[]⟩].toArray 57)) ((wr.alloc (.cells [.int .i64 0, .int .i64 0, .int .i64 0, .string ⟨#[]⟩, .string ⟨#[]⟩].toArray 57)).drew) from (Grew.refl _).drew) g1) 0 _ rfl); (try have z1 := new_cell (w := wr) (t := 57) (cs := [.int .i64 0, .int .i64 0, .int .i64 0, .string ⟨#[]⟩, .string ⟨#[]⟩]) (Grew.trans (show Grew (wr.alloc (.cells [.int .i64 0, .int .i64 0, .int .i64 0, .string ⟨#[]⟩, .string ⟨#[]⟩].toArray 57)) ((wr.alloc (.cells [.int .i64 0, .int .i64 0, .int .i64 0, .string ⟨#[]⟩, .string ⟨#[]⟩].toArray 57)).drew) from (Grew.refl _).drew) g1) 1 _ rfl); (try have z2 := new_cell (w := wr) (t := 57) (cs := [.int .i64 0, .int .i64 0, .int .i64 0, .string ⟨#[]⟩, .string ⟨#[]⟩]) (Grew.trans (show Grew (wr.alloc (.cells [.int .i64 0, .int .i64 0, .int .i64 0, .string ⟨#[]⟩, .string ⟨#[]⟩].toArray 57)) ((wr.alloc (.cells [.int .i64 0, .int .i64 0, .int .i64 0, .string ⟨#[]⟩, .string ⟨#[]⟩].toArray 57)).drew) from (Grew.refl _).drew) g1) 2 _ rfl); (try have z3 := new_cell (w := wr) (t := 57) (cs := [.int .i64 0, .int .i64 0, .int .i64 0, .string ⟨#[]⟩, .string ⟨#[]⟩]) (Grew.trans (show Grew (wr.alloc (.cells [.int .i64 0, .int .i64 0, .int .i64 0, .string ⟨#[]⟩, .string ⟨#[]⟩].toArray 57)) ((wr.alloc (.cells [.int .i64 0, .int .i64 0, .int .i64 0, .string ⟨#[]⟩, .string ⟨#[]⟩].toArray 57)).drew) from (Grew.refl _).drew) g1) 3 _ rfl); (try have z4 := new_cell (w := wr) (t := 57) (cs := [.int .i64 0, .int .i64 0, .int .i64 0, .string ⟨#[]⟩, .string ⟨#[]⟩]) (Grew.trans (show Grew (wr.alloc (.cells [.int .i64 0, .int .i64 0, .int .i64 0, .string ⟨#[]⟩, .string ⟨#[]⟩].toArray 57)) ((wr.alloc (.cells [.int .i64 0, .int .i64 0, .int .i64 0, .string ⟨#[]⟩, .string ⟨#[]⟩].toArray 57)).drew) from (Grew.refl _).drew) g1) 4 _ rfl); (try have f0 := (Grew.frozen (p := ⟨wr.heap.size, 0, none⟩) (show Grew ((wr.alloc (.cells [.int .i64 0, .int .i64 0, .int .i64 0, .string ⟨#[]⟩, .string ⟨#[]⟩].toArray 57)).drew) w1 from g1) (by simp)).trans (show ((wr.alloc (.cells [.int .i64 0, .int .i64 0, .int .i64 0, .string ⟨#[]⟩, .string ⟨#[]⟩].toArray 57)).drew).frozen? ⟨wr.heap.size, 0, none⟩ = false by simp)); (try have f1 := (Grew.frozen (p := ⟨wr.heap.size, 1, none⟩) (show Grew ((wr.alloc (.cells [.int .i64 0, .int .i64 0, .int .i64 0, .string ⟨#[]⟩, .string ⟨#[]⟩].toArray 57)).drew) w1 from g1) (by simp)).trans (show ((wr.alloc (.cells [.int .i64 0, .int .i64 0, .int .i64 0, .string ⟨#[]⟩, .string ⟨#[]⟩].toArray 57)).drew).frozen? ⟨wr.heap.size, 1, none⟩ = false by simp)); (try have f2 := (Grew.frozen (p := ⟨wr.heap.size, 2, none⟩) (show Grew ((wr.alloc (.cells [.int .i64 0, .int .i64 0, .int .i64 0, .string ⟨#[]⟩, .string ⟨#[]⟩].toArray 57)).drew) w1 from g1) (by simp)).trans (show ((wr.alloc (.cells [.int .i64 0, .int .i64 0, .int .i64 0, .string ⟨#[]⟩, .string ⟨#[]⟩].toArray 57)).drew).frozen? ⟨wr.heap.size, 2, none⟩ = false by simp)); (try have f3 := (Grew.frozen (p := ⟨wr.heap.size, 3, none⟩) (show Grew ((wr.alloc (.cells [.int .i64 0, .int .i64 0, .int .i64 0, .string ⟨#[]⟩, .string ⟨#[]⟩].toArray 57)).drew) w1 from g1) (by simp)).trans (show ((wr.alloc (.cells [.int .i64 0, .int .i64 0, .int .i64 0, .string ⟨#[]⟩, .string ⟨#[]⟩].toArray 57)).drew).frozen? ⟨wr.heap.size, 3, none⟩ = false by simp)); (try have f4 := (Grew.frozen (p := ⟨wr.heap.size, 4, none⟩) (show Grew ((wr.alloc (.cells [.int .i64 0, .int .i64 0, .int .i64 0, .string ⟨#[]⟩, .string ⟨#[]⟩].toArray 57)).drew) w1 from g1) (by simp)).trans (show ((wr.alloc (.cells [.int .i64 0, .int .i64 0, .int .i64 0, .string ⟨#[]⟩, .string ⟨#[]⟩].toArray 57)).drew).frozen? ⟨wr.heap.size, 4, none⟩ = false by simp)); clear g1))
          all_goals go_wp2_with fail
          all_goals go_meet
          · exact ⟨_, rfl, rfl, (show Aside _ from new_cell (Grew.refl _) 1 _ rfl), (show Aside _ from G1.out.alloc _)⟩
          · exact ⟨_, rfl, rfl, (show Aside _ from set5_one z1), (show Aside _ from ((((G1.out.setCell (Nat.le_refl _) _).setCell (Nat.le_refl _) _).setCell (Nat.le_refl _) _).setCell (Nat.le_refl _) _).setCell (Nat.le_refl _) _)⟩
      case rest =>
        as_aux_lemma =>
          obtain ⟨U, rfl, rfl, hu1, GC⟩ := hcut
          have u1 := hu1.out
          have GWC := Lib.hid (GW.out.trans GC.out)
          have BWC := Lib.hid (BW.out.trans GC.out)
          clear a0 a1 e0 hu1 KF
          cases os
          · have Hn := Lib.hid (HN.out (fun h => by have := (HKA.out.1 h).1.1; cases this))
            clear HN HY HKA
            go_wp2
            go_ret
            exact ⟨false, rfl, ⟨(fun h => by cases h), fun h => absurd h Hn.out⟩, GWC.out⟩
          cases hyp : (yp != p) with
          | true =>
            have Hn := Lib.hid (HN.out (fun h => by have := (HKA.out.1 h).1.2; rw [this] at hyp; simp at hyp))
            clear HN HY HKA
            go_wp2
            go_ret
            exact ⟨false, rfl, ⟨(fun h => by cases h), fun h => absurd h Hn.out⟩, GWC.out⟩
          | false =>
          have HKB : RowKit.Hid (KA ↔ ∀ j (hj : j < ks.length), j < k → ks[j] ≠ x) := by
            show _ ↔ _
            rw [HKA.out]
            exact ⟨fun h => h.2, fun h => ⟨⟨rfl, by simpa using hyp⟩, h⟩⟩
          clear HKA
          go_wp2
          clear u1
          go_loopg [12] k (fun gg s12 wy => ∃ k2 : Nat, k2 ≤ k ∧ k - k2 ≤ gg ∧ s12 = .int .i64 k2 ∧ Aside (Grew wc wy) ∧ Aside (∀ j (hj : j < ks.length), j < k2 → ks[j] ≠ x))
          case atStart => exact ⟨0, by omega, by omega, rfl, (show Aside _ from Grew.refl _), (show Aside _ from fun j h h2 => absurd h2 (Nat.not_lt_zero _))⟩
          case round =>
            obtain ⟨k2, hk2, hgk2, rfl, BI, M2⟩ := hrel
            have GWI := Lib.hid (GWC.out.trans BI.out)
            by_cases hlt2 : k2 < k
            · have hltz2 : (k2 : Int) < (k : Int) := by omega
              have h0z2 : (0 : Int) ≤ (k2 : Int) := by omega
              have hlk2 : (k2 : Int) < (ks.length : Int) := by omega
              have e1 := HCK.out wr GWI.out k2 (by omega)
              have e2 := HCK.out wr GWI.out k hlt
              rw [HX.out] at e2
              have HNX : RowKit.Hid (ks[k2] ≠ x → ∀ j (hj : j < ks.length), j < k2 + 1 → ks[j] ≠ x) := fun h j hj h2 => by
                by_cases e : j = k2
                · subst e; exact h
                · exact M2.out j hj (by omega)
              have HBX : RowKit.Hid (ks[k2] = x → ¬ KA) := fun h h2 => HKB.out.1 h2 k2 (by omega) hlt2 h
              generalize ks[k2] = z at e1 HNX HBX
              cases hzx : (z == x) with
              | true =>
                have Hn := Lib.hid (HN.out (HBX.out (by simpa using hzx)))
                clear HN HY HKB M2 HNX HBX
                go_wp2
                go_quiet (fail)
                clear e1 e2
                go_wp2
                go_ret
                exact ⟨false, rfl, ⟨(fun h => by cases h), fun h => absurd h Hn.out⟩, GWI.out.drewN _⟩
              | false =>
                have Hy2 := Lib.hid (HNX.out (by simpa using hzx))
                clear M2 HNX HBX
                go_wp2
                go_quiet (fail)
                clear e1 e2
                go_wp2
                go_roundg (k - (k2 + 1))
                case measure => omega
                case rel => exact ⟨k2 + 1, by omega, by omega, by go_num, (show Aside _ from BI.out.drewN _), (show Aside _ from Hy2.out)⟩
            · have hltz2 : ¬ (k2 : Int) < (k : Int) := by omega
              have Hy := Lib.hid (HY.out (HKB.out.2 (fun j hj hjk => M2.out j hj (by omega))))
              have BWI := Lib.hid (BWC.out.trans BI.out)
              clear HN HY HKB M2
              go_wp2
              go_roundg (ks.length - (k + 1))
              case measure => omega
              case rel => exact ⟨k + 1, by omega, by omega, by go_num, (show Aside _ from BWI.out), (show Aside _ from Hy.out)⟩
end Go.Proofs.YtfghbendiofbeaaGreatDoor

/- The reference's path of a unit, walked. The conditions: every unit is found by its number, and stands below one that is there; the list is short. -/
namespace Go.Proofs.YtfghbendiofbeaaGreatDoor
open Go.RowKit

theorem own_lit1 {W : World} {base : Nat} {e : TypeId} {x : Value} (H : Nat) (hH : W.heap.size = H) (hb : base ≤ H) : (W.alloc (.cells #[x] e)).ownsRow base e 1 (.slice (some ⟨H, 0, none⟩) 1 1) 1 [x] := by
  subst hH
  exact ⟨by simp, .inr ⟨W.heap.size, 1, #[x], rfl, hb, heap_alloc_new W _, Nat.le_refl _, (by unfold maxLen; omega), rfl, rfl⟩⟩
theorem path_own {w : World} {base : Nat} {v : Value} {x : Int} {out : List Int} (h : w.ownsRow base 3 1 v (1 + out.length) ([.int .i64 x] ++ out.flatMap oneI)) : ∃ A c, v = .slice A (out.length + 1) c ∧ SlI w (.slice A (out.length + 1) c) (x :: out) := by
  have e : ([.int .i64 x] ++ out.flatMap oneI) = (x :: out).flatMap oneI := by simp [oneI]
  rw [e, Nat.add_comm] at h
  have hs : SlI w v (x :: out) := Rd.of_own h
  obtain ⟨A, c, hv, -⟩ := hs.open_
  rw [List.length_cons] at hv
  subst hv
  exact ⟨A, c, rfl, hs⟩
def idOf : Option Br → Int
  | none => 0
  | some c => c.id
def goOn (l : List Br) (f : Nat) (out : List Int) : Option Br → List Int
  | none => out
  | some c => match upW l f c with
    | none => []
    | some ids => ids.reverse ++ out
theorem goOn_zero (l : List Br) (out : List Int) (c : Br) : goOn l 0 out (some c) = [] := rfl
theorem goOn_top (l : List Br) (f : Nat) (out : List Int) (c : Br) (h : c.parent = 0) : goOn l (f + 1) out (some c) = goOn l f (c.id :: out) none := by simp [goOn, upW, h]
theorem goOn_up (l : List Br) (f : Nat) (out : List Int) (c p : Br) (h : c.parent ≠ 0) (hp : brFind l c.parent = some p) : goOn l (f + 1) out (some c) = goOn l f (c.id :: out) (some p) := by
  simp only [goOn, upW, if_neg h, hp]
  cases upW l f p <;> simp
set_option maxHeartbeats 8000000 in
set_option maxRecDepth 100000 in
theorem refPath19 (l : List Br) (b : Br) (rv bv : Value) (w : World) (hv : SlBr w bv l) (hb : b ∈ l) (hf : ∀ c ∈ l, brFind l c.id = some c) (hz : ∀ c ∈ l, c.id ≠ 0) (hu : upOk l) (hl : l.length ≤ 1000000) :
    Calls Tryz.prog 104 #[.agg #[rv, bv], .int .i64 b.id] w (RetI (pathW l b) w) := by
  have HF := Lib.hid (fun n W (hW : Grew w W) => refFind19 l n rv bv W (hv.mono hW))
  have HB := Lib.hid hf
  have HZ := Lib.hid hz
  have HU := Lib.hid hu
  have hR : pathW l b = goOn l l.length [] (some b) := by
    show _ = match upW l l.length b with
      | none => []
      | some ids => ids.reverse ++ []
    unfold pathW
    cases upW l l.length b <;> simp
  rw [hR]
  generalize hR0 : goOn l l.length [] (some b) = R
  have HR := Lib.hid hR0
  have HM := Lib.hid hb
  obtain ⟨A, c, rfl, hlc, hc, -⟩ := hv.open_
  unfold maxLen at hc
  obtain ⟨k0, hk0, hx0, hx1, hx2⟩ := info_parts cinfoI
  generalize hid : b.id = bid
  have HID := Lib.hid hid
  clear hv hb hf hz hu hR hR0 hid
  go_enter Tryz.func104, Tryz.ntmps104
  go_wp2
  go_loopg [1, 5] (l.length + 1) (fun gg s1 s5 wr => ∃ (m : Nat) (cur : Option Br) (out : List Int), m ≤ l.length ∧ l.length + 1 - m ≤ gg ∧ out.length = m ∧ s1 = .int .i64 (idOf cur) ∧ Aside (SlI wr s5 out) ∧ Aside (Grew (w.alloc (.cells [rv, .slice A l.length c].toArray 51)) wr) ∧ Aside (∀ c, cur = some c → c ∈ l) ∧ Aside (goOn l (l.length - m) out cur = R))
  case atStart => exact ⟨0, some b, [], by omega, by omega, rfl, by rw [← HID.out]; rfl, (show Aside _ from SlI.nil _), (show Aside _ from Grew.refl _), (show Aside _ from fun c h => by cases h; exact HM.out), (show Aside _ from HR.out)⟩
  case round =>
    obtain ⟨m, cur, out, hm, hgm, rfl, rfl, OW, BW, HC, HG⟩ := hrel
    have GW := Lib.hid (((Grew.refl w).alloc _).trans BW.out)
    cases cur with
    | none =>
      have hRR : out = R := HG.out
      subst hRR
      clear HG HC
      unfold idOf
      go_wp2
      go_ret
      exact ⟨_, rfl, OW.out, GW.out⟩
    | some y =>
    have hmem := HC.out y rfl
    have hne : (y.id != 0) = true := by simpa using HZ.out y hmem
    have kF := fun W (hW : Grew w W) => HF.out y.id W hW
    simp only [HB.out y hmem] at kF
    have KF := Lib.hid kF
    obtain ⟨A5, c5, rfl, hl5, hc5, -⟩ := OW.out.open_
    unfold maxLen at hc5
    have HUP := Lib.hid (HU.out y hmem)
    have HT := Lib.hid (fun f => goOn_top l f out y)
    have HV := Lib.hid (fun f p => goOn_up l f out y p)
    have t0 := new_cell BW.out 0 _ rfl
    have t1 := new_cell BW.out 1 _ rfl
    unfold idOf
    obtain ⟨yi, yp, yl, yt, ym, yk⟩ := y
    dsimp only at hne KF HUP HT HV ⊢
    have hfl : (out.flatMap oneI).length = out.length * 1 := flatMap_len oneI 1 (fun _ => rfl) out
    have HFL := Lib.hid hfl
    clear kF hfl hmem
    by_cases hover : l.length < out.length + 1
    · have hoverz : (l.length : Int) < (out.length : Int) + 1 := by omega
      have hRR : R = [] := by
        have h := HG.out
        rw [show l.length - out.length = 0 by omega, goOn_zero] at h
        exact h.symm
      subst hRR
      clear HG HC HT HV HUP hover
      go_wp2_with fail
      refine (KF.out _ GW.out).mono ?_
      rintro e w2 ⟨rfl, g2⟩
      have HG2 := Lib.hid ((BW.out.trans g2).alloc (.cells #[.int .i64 yi, .int .i64 yp, .int .i64 yl, .string yt, .string ym] 57))
      have G2 := Lib.hid ((GW.out.trans g2).alloc (.cells #[.int .i64 yi, .int .i64 yp, .int .i64 yl, .string yt, .string ym] 57))
      have OW2 := Lib.hid (OW.out.mono (g2.alloc (.cells #[.int .i64 yi, .int .i64 yp, .int .i64 yl, .string yt, .string ym] 57)))
      have u1 := new_cell (Grew.refl (w2.alloc (.cells #[.int .i64 yi, .int .i64 yp, .int .i64 yl, .string yt, .string ym] 57))) 1 _ rfl
      have HU1 := Lib.hid u1
      clear g2 t0 t1 u1 KF
      dsimp only
      go_wp2_with (at_builtin; refine appR rfl _ _ 43 rfl (w2.alloc (.cells #[.int .i64 yi, .int .i64 yp, .int .i64 yl, .string yt, .string ym] 57)) 3 k0 (.int .i64 0) 1 8 Tryz.underlying43 hk0 hx0 hx1 hx2 rfl (by omega) _ 1 [.int .i64 yi] (by rfl) _ (own_lit1 _ (by simp) (by simp)) ((Grew.refl _).alloc _) _ out.length (out.flatMap oneI) (by rfl) (Rd.mono OW2.out ((Grew.refl _).alloc _)) HFL.out (one_cellsI _) (by unfold maxLen; omega) (by omega) ?_; intro v5 w5 o5 g5 _; obtain ⟨A6, c6, rfl, ho5⟩ := path_own o5; have O5 := Lib.hid ho5; have tt1 := new_cell (HG2.out.trans g5) 1 _ rfl; have uu1 := keep_cell g5 HU1.out; have G5 := Lib.hid (G2.out.trans g5); have BW5 := Lib.hid (HG2.out.trans g5); clear o5 g5 ho5)
      go_ret
      exact ⟨_, rfl, SlI.nil _, G5.out⟩
    have hoverz : ¬ (l.length : Int) < (out.length : Int) + 1 := by omega
    have hnx : ∃ cur' : Option Br, idOf cur' = yp ∧ (∀ c, cur' = some c → c ∈ l) ∧ goOn l (l.length - (out.length + 1)) (yi :: out) cur' = R := by
      have h := HG.out
      rw [show l.length - out.length = (l.length - (out.length + 1)) + 1 by omega] at h
      by_cases hp : yp = 0
      · refine ⟨none, by rw [hp]; rfl, (fun c h => by cases h), ?_⟩
        rw [HT.out _ hp] at h
        exact h
      · rcases HUP.out with h1 | ⟨q, hq⟩
        · exact absurd h1 hp
        · refine ⟨some q, (find_in hq).2, (fun c h => by cases h; exact (find_in hq).1), ?_⟩
          rw [HV.out _ q hp hq] at h
          exact h
    obtain ⟨cur', hc1, hc2, hc3⟩ := hnx
    have H1 := Lib.hid hc1
    have H2 := Lib.hid hc2
    have H3 := Lib.hid hc3
    clear hc1 hc2 hc3 hover HG HC HT HV HUP
    go_wp2_with fail
    refine (KF.out _ GW.out).mono ?_
    rintro e w2 ⟨rfl, g2⟩
    have HG2 := Lib.hid ((BW.out.trans g2).alloc (.cells #[.int .i64 yi, .int .i64 yp, .int .i64 yl, .string yt, .string ym] 57))
    have G2 := Lib.hid ((GW.out.trans g2).alloc (.cells #[.int .i64 yi, .int .i64 yp, .int .i64 yl, .string yt, .string ym] 57))
    have OW2 := Lib.hid (OW.out.mono (g2.alloc (.cells #[.int .i64 yi, .int .i64 yp, .int .i64 yl, .string yt, .string ym] 57)))
    have u1 := new_cell (Grew.refl (w2.alloc (.cells #[.int .i64 yi, .int .i64 yp, .int .i64 yl, .string yt, .string ym] 57))) 1 _ rfl
    have HU1 := Lib.hid u1
    clear g2 t0 t1 u1 KF
    dsimp only
    go_wp2_with (at_builtin; refine appR rfl _ _ 43 rfl (w2.alloc (.cells #[.int .i64 yi, .int .i64 yp, .int .i64 yl, .string yt, .string ym] 57)) 3 k0 (.int .i64 0) 1 8 Tryz.underlying43 hk0 hx0 hx1 hx2 rfl (by omega) _ 1 [.int .i64 yi] (by rfl) _ (own_lit1 _ (by simp) (by simp)) ((Grew.refl _).alloc _) _ out.length (out.flatMap oneI) (by rfl) (Rd.mono OW2.out ((Grew.refl _).alloc _)) HFL.out (one_cellsI _) (by unfold maxLen; omega) (by omega) ?_; intro v5 w5 o5 g5 _; obtain ⟨A6, c6, rfl, ho5⟩ := path_own o5; have O5 := Lib.hid ho5; have tt1 := new_cell (HG2.out.trans g5) 1 _ rfl; have uu1 := keep_cell g5 HU1.out; have G5 := Lib.hid (G2.out.trans g5); have BW5 := Lib.hid (HG2.out.trans g5); clear o5 g5 ho5)
    go_roundg (l.length + 1 - (out.length + 1))
    case measure => omega
    case rel => exact ⟨out.length + 1, cur', yi :: out, by omega, by omega, by rw [List.length_cons], by rw [H1.out], (show Aside _ from O5.out), (show Aside _ from BW5.out), (show Aside _ from H2.out), (show Aside _ from H3.out)⟩
end Go.Proofs.YtfghbendiofbeaaGreatDoor

/- The reference's Check and Right of a tree, walked. The conditions: the lists are short, and the marks no longer than a string can be. -/
namespace Go.Proofs.YtfghbendiofbeaaGreatDoor
open Go.RowKit

theorem alone_asc {l : List Br} (h : ∀ i (hi : i < l.length), BrAlone l i hi) : idsAsc l :=
  adj_pairwise (r := fun (a b : Br) => a.id < b.id) (fun (_ _ _ : Br) h1 h2 => Int.lt_trans h1 h2) l (fun i hi => by
    have := (h (i + 1) hi).2.2.1 (by omega)
    simpa using this)
theorem alone_pos {l : List Br} (h : ∀ i (hi : i < l.length), BrAlone l i hi) : ∀ b ∈ l, b.id ≠ 0 := fun b hb e => by
  obtain ⟨k, hk, rfl⟩ := List.mem_iff_getElem.1 hb
  have := within_t.1 (h k hk).1
  omega
theorem placed_up {l : List Br} (h : ∀ i (hi : i < l.length), BrPlaced l l[i]) : upOk l := fun b hb => by
  obtain ⟨k, hk, rfl⟩ := List.mem_iff_getElem.1 hb
  have := h k hk
  unfold BrPlaced at this
  by_cases hp : l[k].parent = 0
  · exact .inl hp
  · rw [if_neg hp] at this
    obtain ⟨p, hpp, _⟩ := this
    exact .inr ⟨p, hpp⟩
set_option maxHeartbeats 16000000 in
set_option maxRecDepth 100000 in
theorem refCheck19 (rs : List Int) (l : List Br) (rv bv : Value) (w : World) (hr : SlI w rv rs) (hv : SlBr w bv l) (hf : FewBr l) (hrl : rs.length ≤ 1000000) (hm : ∀ i (h : i < l.length), l[i].mark.size ≤ 9223372036854775807) :
    Calls Tryz.prog 102 #[.agg #[rv, bv]] w (RetIff2 (RightT ⟨rs, l⟩) w) := by
  have HO := Lib.hid (fun i (hi : i < l.length) W (hW : Grew w W) => refOwn19 l i hi rv bv W (hv.mono hW) (hm i hi))
  have HP := Lib.hid (fun y W (hW : Grew w W) => refPlace l y rv bv W (hv.mono hW))
  have HK := Lib.hid (fun ks p kv W (hW : Grew w W) (hk : SlI w kv ks) (h : ks.length ≤ 1000000) => refKids l ks p rv bv kv W (hv.mono hW) (hk.mono hW) hf.1 h)
  have HK0 := Lib.hid (fun p W (hW : Grew w W) => refKids l rs p rv bv rv W (hv.mono hW) (hr.mono hW) hf.1 hrl)
  have HW := Lib.hid (fun b W (hW : Grew w W) hb h1 h2 h3 => refPath19 l b rv bv W (hv.mono hW) hb h1 h2 h3 hf.1)
  have HD : RowKit.Hid (RightT ⟨rs, l⟩ ↔ l.length ≤ 256 ∧ (∀ i (h : i < l.length), BrAlone l i h) ∧ (∀ i (h : i < l.length), BrPlaced l l[i]) ∧ (∀ i (h : i < l.length), sortI l[i].kids = kidsOf l l[i].id) ∧ sortI rs = kidsOf l 0 ∧ ∀ i (h : i < l.length), BrDeep l l[i]) := Iff.rfl
  have HFK := Lib.hid hf.2
  generalize RightT ⟨rs, l⟩ = PR at HD ⊢
  obtain ⟨A, c, rfl, hlc, hc, hcell0⟩ := hv.open_
  obtain ⟨B, d, rfl, -, -, -⟩ := hr.open_
  unfold maxLen at hc
  have HR := Lib.hid hcell0
  have hl6 := hf.1
  clear hcell0 hv hr hf hm hrl
  by_cases h256 : 256 < l.length
  · have h256' : (256 : Int) < (l.length : Int) := by omega
    have Hn : RowKit.Hid (¬ PR) := fun h => by have := (HD.out.1 h).1; omega
    clear h256
    go_enter Tryz.func102, Tryz.ntmps102
    go_wp2
    go_ret2
    exact RetIff2.no _ 8 (by decide) Hn.out ((Grew.refl w).alloc _)
  have h256' : ¬ (256 : Int) < (l.length : Int) := by omega
  go_enter Tryz.func102, Tryz.ntmps102
  go_wp2
  go_loopg [4] l.length (fun gg s wr => ∃ k : Nat, k ≤ l.length ∧ l.length - k ≤ gg ∧ s = .int .i64 k ∧ Aside (Grew (w.alloc (.cells [.slice B rs.length d, .slice A l.length c].toArray 51)) wr) ∧ Aside (∀ j (h : j < l.length), j < k → BrAlone l j h))
  case atStart => exact ⟨0, by omega, by omega, rfl, (show Aside _ from Grew.refl _), (show Aside _ from fun j h h2 => absurd h2 (Nat.not_lt_zero _))⟩
  case round =>
    obtain ⟨k, hk, hgk, rfl, BW, M⟩ := hrel
    have GW := Lib.hid (((Grew.refl w).alloc _).trans BW.out)
    have t0 := new_cell BW.out 0 _ rfl
    have t1 := new_cell BW.out 1 _ rfl
    by_cases hlt : k < l.length
    · have hltz : (k : Int) < (l.length : Int) := by omega
      have kO := HO.out k hlt wr GW.out
      have hPK : ∃ PK, RowKit.Hid (BrAlone l k hlt = PK) := ⟨_, rfl⟩
      obtain ⟨PK, HPK⟩ := hPK
      have HN : RowKit.Hid (¬ PK → ¬ PR) := by rw [← HPK.out]; exact fun h h2 => h ((HD.out.1 h2).2.1 k hlt)
      have HY : RowKit.Hid (PK → ∀ j (h : j < l.length), j < k + 1 → BrAlone l j h) := by
        rw [← HPK.out]
        exact fun h j hj h2 => by
          by_cases e : j = k
          · subst e; exact h
          · exact M.out j hj (by omega)
      rw [HPK.out] at kO
      have KO := Lib.hid kO
      clear kO M
      go_wp2_with fail
      refine KO.out.mono ?_
      rintro e w1 ⟨n, rfl, hn, g1⟩
      have HG := Lib.hid (GW.out.trans g1)
      have BG := Lib.hid (BW.out.trans g1)
      clear g1 KO t0 t1
      have HNN := Lib.hid hn
      clear hn
      dsimp only
      by_cases hz : n = 0
      case neg =>
        have hz' : (n != 0) = true := by simpa using hz
        have Hz := Lib.hid hz
        have Hn := Lib.hid (HN.out (fun h => hz (HNN.out.2 h)))
        clear hz
        go_wp2
        go_ret2
        exact RetIff2.no _ n Hz.out Hn.out HG.out
      · subst hz
        have Hy := Lib.hid (HY.out (HNN.out.1 rfl))
        go_wp2
        go_roundg (l.length - (k + 1))
        case measure => omega
        case rel => exact ⟨k + 1, by omega, by omega, by go_num, (show Aside _ from BG.out), (show Aside _ from Hy.out)⟩
    have hltz : ¬ (k : Int) < (l.length : Int) := by omega
    have HALL1 : RowKit.Hid (∀ j (h : j < l.length), BrAlone l j h) := fun j h => M.out j h (by omega)
    clear M
    go_wp2
    clear t0 t1
    go_loopg [6] l.length (fun gg s wr => ∃ k : Nat, k ≤ l.length ∧ l.length - k ≤ gg ∧ s = .int .i64 k ∧ Aside (Grew (w.alloc (.cells [.slice B rs.length d, .slice A l.length c].toArray 51)) wr) ∧ Aside (∀ j (h : j < l.length), j < k → BrPlaced l l[j]))
    case atStart => exact ⟨0, by omega, by omega, rfl, (show Aside _ from BW.out), (show Aside _ from fun j h h2 => absurd h2 (Nat.not_lt_zero _))⟩
    case round =>
      obtain ⟨k, hk, hgk, rfl, BW, M⟩ := hrel
      have GW := Lib.hid (((Grew.refl w).alloc _).trans BW.out)
      have t0 := new_cell BW.out 0 _ rfl
      have t1 := new_cell BW.out 1 _ rfl
      by_cases hlt : k < l.length
      · have hltz : (k : Int) < (l.length : Int) := by omega
        have h0z : (0 : Int) ≤ (k : Int) := by omega
        obtain ⟨b, off, rfl, hb, hcell⟩ := HR.out (by omega)
        obtain ⟨kv, hkv, hcl⟩ := hcell k hlt
        obtain ⟨c0, c1, c2, c3, c4, c5⟩ := hcl wr GW.out
        have kP := fun W hW => HP.out l[k] W hW
        have hPK : ∃ PK, RowKit.Hid (BrPlaced l l[k] = PK) := ⟨_, rfl⟩
        obtain ⟨PK, HPK⟩ := hPK
        have HN : RowKit.Hid (¬ PK → ¬ PR) := by rw [← HPK.out]; exact fun h h2 => h ((HD.out.1 h2).2.2.1 k hlt)
        have HY : RowKit.Hid (PK → ∀ j (h : j < l.length), j < k + 1 → BrPlaced l l[j]) := by
          rw [← HPK.out]
          exact fun h j hj h2 => by
            by_cases e : j = k
            · subst e; exact h
            · exact M.out j hj (by omega)
        rw [HPK.out] at kP
        generalize l[k] = y at c0 c1 c2 c3 c4 c5 kP hkv
        obtain ⟨yi, yp, yl, yt, ym, yk⟩ := y
        dsimp only at c0 c1 c2 c3 c4 c5 kP hkv
        have KP := Lib.hid kP
        clear kP M hcell hcl hkv c5
        go_wp2_with fail
        refine region_still_tail 7 (by kernel_rfl) (by kernel_rfl) ?_
        simp only [List.take_succ_cons, List.take_zero, List.drop_succ_cons, List.drop_zero]
        iterate 7 still_step
        refine wpStill_nil ?_
        go_wp2_with fail
        refine (KP.out _ GW.out.drew).mono ?_
        rintro e w1 ⟨n, rfl, hn, g1⟩
        have HG := Lib.hid (GW.out.drew.trans g1)
        have BG := Lib.hid (BW.out.drew.trans g1)
        clear g1 KP t0 t1 c0 c1 c2 c3 c4
        have HNN := Lib.hid hn
        clear hn
        dsimp only
        by_cases hz : n = 0
        case neg =>
          have hz' : (n != 0) = true := by simpa using hz
          have Hz := Lib.hid hz
          have Hn := Lib.hid (HN.out (fun h => hz (HNN.out.2 h)))
          clear hz
          go_wp2
          go_ret2
          exact RetIff2.no _ n Hz.out Hn.out HG.out
        · subst hz
          have Hy := Lib.hid (HY.out (HNN.out.1 rfl))
          go_wp2
          go_roundg (l.length - (k + 1))
          case measure => omega
          case rel => exact ⟨k + 1, by omega, by omega, by go_num, (show Aside _ from BG.out), (show Aside _ from Hy.out)⟩
      have hltz : ¬ (k : Int) < (l.length : Int) := by omega
      have HALL2 : RowKit.Hid (∀ j (h : j < l.length), BrPlaced l l[j]) := fun j h => M.out j h (by omega)
      have HASC := Lib.hid (alone_asc HALL1.out)
      clear M
      go_wp2
      clear t0 t1
      go_loopg [8] l.length (fun gg s wr => ∃ k : Nat, k ≤ l.length ∧ l.length - k ≤ gg ∧ s = .int .i64 k ∧ Aside (Grew (w.alloc (.cells [.slice B rs.length d, .slice A l.length c].toArray 51)) wr) ∧ Aside (∀ j (h : j < l.length), j < k → sortI l[j].kids = kidsOf l l[j].id))
      case atStart => exact ⟨0, by omega, by omega, rfl, (show Aside _ from BW.out), (show Aside _ from fun j h h2 => absurd h2 (Nat.not_lt_zero _))⟩
      case round =>
        obtain ⟨k, hk, hgk, rfl, BW, M⟩ := hrel
        have GW := Lib.hid (((Grew.refl w).alloc _).trans BW.out)
        have t0 := new_cell BW.out 0 _ rfl
        have t1 := new_cell BW.out 1 _ rfl
        by_cases hlt : k < l.length
        · have hltz : (k : Int) < (l.length : Int) := by omega
          have h0z : (0 : Int) ≤ (k : Int) := by omega
          obtain ⟨b, off, rfl, hb, hcell⟩ := HR.out (by omega)
          obtain ⟨kv, hkv, hcl⟩ := hcell k hlt
          obtain ⟨c0, c1, c2, c3, c4, c5⟩ := hcl wr GW.out
          have kK := fun W hW => HK.out l[k].kids l[k].id kv W hW hkv (HFK.out k hlt)
          simp only [kids_ok HASC.out] at kK
          have hPK : ∃ PK, RowKit.Hid ((sortI l[k].kids = kidsOf l l[k].id) = PK) := ⟨_, rfl⟩
          obtain ⟨PK, HPK⟩ := hPK
          have HN : RowKit.Hid (¬ PK → ¬ PR) := by rw [← HPK.out]; exact fun h h2 => h ((HD.out.1 h2).2.2.2.1 k hlt)
          have HY : RowKit.Hid (PK → ∀ j (h : j < l.length), j < k + 1 → sortI l[j].kids = kidsOf l l[j].id) := by
            rw [← HPK.out]
            exact fun h j hj h2 => by
              by_cases e : j = k
              · subst e; exact h
              · exact M.out j hj (by omega)
          rw [HPK.out] at kK
          generalize l[k] = y at c0 c1 c2 c3 c4 c5 kK hkv
          obtain ⟨yi, yp, yl, yt, ym, yk⟩ := y
          dsimp only at c0 c1 c2 c3 c4 c5 kK hkv
          obtain ⟨Ak, ck, rfl, -, -, -⟩ := hkv.open_
          have KK := Lib.hid kK
          clear kK M hcell hcl hkv c1 c2 c3 c4
          go_wp2_with fail
          refine region_still_tail 14 (by kernel_rfl) (by kernel_rfl) ?_
          simp only [List.take_succ_cons, List.take_zero, List.drop_succ_cons, List.drop_zero]
          iterate 14 still_step
          refine wpStill_nil ?_
          go_wp2_with fail
          refine (KK.out _ GW.out.drew).mono ?_
          rintro e w1 ⟨q, rfl, hn, g1⟩
          have HG := Lib.hid (GW.out.drew.trans g1)
          have BG := Lib.hid (BW.out.drew.trans g1)
          have HNN := Lib.hid hn
          clear g1 KK t0 t1 c0 c5 hn
          dsimp only
          cases q
          · have Hn := Lib.hid (HN.out (fun h => by have := HNN.out.2 h; cases this))
            go_wp2
            go_ret2
            exact RetIff2.no _ 10 (by decide) Hn.out HG.out
          · have Hy := Lib.hid (HY.out (HNN.out.1 rfl))
            go_wp2
            go_roundg (l.length - (k + 1))
            case measure => omega
            case rel => exact ⟨k + 1, by omega, by omega, by go_num, (show Aside _ from BG.out), (show Aside _ from Hy.out)⟩
        have hltz : ¬ (k : Int) < (l.length : Int) := by omega
        have HALL3 : RowKit.Hid (∀ j (h : j < l.length), sortI l[j].kids = kidsOf l l[j].id) := fun j h => M.out j h (by omega)
        have kR := fun W hW => HK0.out 0 W hW
        simp only [kids_ok HASC.out] at kR
        have KR := Lib.hid kR
        clear M kR
        go_wp2_with fail
        refine (KR.out _ GW.out).mono ?_
        rintro e w1 ⟨q, rfl, hn, g1⟩
        have HG := Lib.hid (GW.out.trans g1)
        have BG := Lib.hid (BW.out.trans g1)
        have HNN := Lib.hid hn
        clear g1 KR t0 t1 hn
        dsimp only
        cases q
        · have Hn : RowKit.Hid (¬ PR) := fun h => by have := HNN.out.2 (HD.out.1 h).2.2.2.2.1; cases this
          go_wp2
          go_ret2
          exact RetIff2.no _ 10 (by decide) Hn.out HG.out
        have HRT := Lib.hid (HNN.out.1 rfl)
        go_wp2
        go_loopg [9] l.length (fun gg s wr => ∃ k : Nat, k ≤ l.length ∧ l.length - k ≤ gg ∧ s = .int .i64 k ∧ Aside (Grew (w.alloc (.cells [.slice B rs.length d, .slice A l.length c].toArray 51)) wr) ∧ Aside (∀ j (h : j < l.length), j < k → BrDeep l l[j]))
        case atStart => exact ⟨0, by omega, by omega, rfl, (show Aside _ from BG.out), (show Aside _ from fun j h h2 => absurd h2 (Nat.not_lt_zero _))⟩
        case round =>
          obtain ⟨k, hk, hgk, rfl, BW, M⟩ := hrel
          have GW := Lib.hid (((Grew.refl w).alloc _).trans BW.out)
          have t0 := new_cell BW.out 0 _ rfl
          have t1 := new_cell BW.out 1 _ rfl
          by_cases hlt : k < l.length
          · have hltz : (k : Int) < (l.length : Int) := by omega
            have h0z : (0 : Int) ≤ (k : Int) := by omega
            obtain ⟨b, off, rfl, hb, hcell⟩ := HR.out (by omega)
            obtain ⟨kv, hkv, hcl⟩ := hcell k hlt
            obtain ⟨c0, c1, c2, c3, c4, c5⟩ := hcl wr GW.out
            have hmem : l[k] ∈ l := List.getElem_mem hlt
            have kW := fun W hW => HW.out l[k] W hW hmem (fun c hc => find_byid HASC.out hc) (alone_pos HALL1.out) (placed_up HALL2.out)
            have hpd := (path_deep HASC.out (placed_up HALL2.out) hmem).1
            have hPK : ∃ PK, RowKit.Hid (BrDeep l l[k] = PK) := ⟨_, rfl⟩
            obtain ⟨PK, HPK⟩ := hPK
            have HN : RowKit.Hid (¬ PK → ¬ PR) := by rw [← HPK.out]; exact fun h h2 => h ((HD.out.1 h2).2.2.2.2.2 k hlt)
            have HY : RowKit.Hid (PK → ∀ j (h : j < l.length), j < k + 1 → BrDeep l l[j]) := by
              rw [← HPK.out]
              exact fun h j hj h2 => by
                by_cases e : j = k
                · subst e; exact h
                · exact M.out j hj (by omega)
            rw [HPK.out] at hpd
            generalize pathW l l[k] = PW at kW hpd
            generalize l[k] = y at c0 c1 c2 c3 c4 c5 kW hkv
            obtain ⟨yi, yp, yl, yt, ym, yk⟩ := y
            dsimp only at c0 c1 c2 c3 c4 c5 kW hkv
            have KW := Lib.hid kW
            have HPD := Lib.hid hpd
            clear kW M hcell hcl hkv c1 c2 c3 c4 c5 hpd hmem
            go_wp2_with fail
            refine region_still_tail 8 (by kernel_rfl) (by kernel_rfl) ?_
            simp only [List.take_succ_cons, List.take_zero, List.drop_succ_cons, List.drop_zero]
            iterate 8 still_step
            refine wpStill_nil ?_
            go_wp2_with fail
            refine (KW.out _ GW.out.drew).mono ?_
            rintro e w1 ⟨v1, rfl, s1, g1⟩
            have HG := Lib.hid (GW.out.drew.trans g1)
            have BG := Lib.hid (BW.out.drew.trans g1)
            obtain ⟨A1, c1, rfl, hl1, hc1, -⟩ := s1.open_
            unfold maxLen at hc1
            clear g1 KW t0 t1 c0 s1
            dsimp only
            by_cases h0 : PW.length = 0
            · have h0' : ((PW.length : Int) == 0) = true := by simpa using h0
              have Hn := Lib.hid (HN.out (fun h => (HPD.out.1 h).1 h0))
              clear h0
              go_wp2
              go_ret2
              exact RetIff2.no _ 17 (by decide) Hn.out HG.out
            have h0' : ((PW.length : Int) == 0) = false := by simpa using h0
            by_cases h12 : 12 < PW.length
            · have h12' : (12 : Int) < (PW.length : Int) := by omega
              have Hn := Lib.hid (HN.out (fun h => by have := (HPD.out.1 h).2; omega))
              clear h0
              go_wp2
              go_ret2
              exact RetIff2.no _ 15 (by decide) Hn.out HG.out
            have h12' : ¬ (12 : Int) < (PW.length : Int) := by omega
            have Hy := Lib.hid (HY.out (HPD.out.2 ⟨h0, by omega⟩))
            clear h0
            go_wp2
            go_roundg (l.length - (k + 1))
            case measure => omega
            case rel => exact ⟨k + 1, by omega, by omega, by go_num, (show Aside _ from BG.out), (show Aside _ from Hy.out)⟩
          have hltz : ¬ (k : Int) < (l.length : Int) := by omega
          have Hy := Lib.hid (HD.out.2 ⟨by omega, HALL1.out, HALL2.out, HALL3.out, HRT.out, fun j h => M.out j h (by omega)⟩)
          clear M t0
          go_wp2
          go_ret2
          exact RetIff2.yes _ Hy.out GW.out
theorem refRight19 (rs : List Int) (l : List Br) (rv bv : Value) (w : World) (hr : SlI w rv rs) (hv : SlBr w bv l) (hf : FewBr l) (hrl : rs.length ≤ 1000000) (hm : ∀ i (h : i < l.length), l[i].mark.size ≤ 9223372036854775807) :
    Calls Tryz.prog 73 #[.agg #[rv, bv]] w (RetB (RightT ⟨rs, l⟩) w) := by
  have K := Lib.hid (fun W (hW : Grew w W) => refCheck19 rs l rv bv W (hr.mono hW) (hv.mono hW) hf hrl hm)
  clear hr hv hf hrl hm
  go_enter Tryz.func73, Tryz.ntmps73
  go_wp2_with fail
  refine (K.out _ ((Grew.refl w).alloc _)).mono ?_
  rintro e w1 ⟨i, n, rfl, hn, g⟩
  have HN := Lib.hid hn
  have HG := Lib.hid (((Grew.refl w).alloc _).trans g)
  clear hn g
  dsimp only
  cases hz : (n == 0)
  · go_wp2
    go_ret
    exact ⟨false, rfl, ⟨(fun h => by cases h), (fun h => by rw [HN.out.2 h] at hz; cases hz)⟩, HG.out⟩
  · go_wp2
    go_ret
    exact ⟨true, rfl, ⟨fun _ => HN.out.1 (by simpa using hz), fun _ => rfl⟩, HG.out⟩
end Go.Proofs.YtfghbendiofbeaaGreatDoor

/- The reference's Path of a unit and the inherited holders, walked. The conditions: the lists are short, and the marks no longer than a string can be. -/
namespace Go.Proofs.YtfghbendiofbeaaGreatDoor
open Go.RowKit

/-- How the reference's question after a tree and a unit ends. -/
def KnownEnd (t : Tr) (id : Int) (top : Bool) (w : World) (e : Ending) (w' : World) : Prop := ∃ n : Int, e = .returned (.int .i64 n) ∧ (¬ RightT t → n = 1) ∧ (RightT t → n = if ((brFind t.brs id).isSome || (top && (id == 0))) then 0 else 7) ∧ Grew w w'
set_option maxHeartbeats 8000000 in
theorem refKnown (rs : List Int) (l : List Br) (id : Int) (top : Bool) (rv bv : Value) (w : World) (hr : SlI w rv rs) (hv : SlBr w bv l) (hf : FewBr l) (hrl : rs.length ≤ 1000000) (hm : ∀ i (h : i < l.length), l[i].mark.size ≤ 9223372036854775807) :
    Calls Tryz.prog 103 #[.agg #[rv, bv], .int .i64 id, .bool top] w (KnownEnd ⟨rs, l⟩ id top w) := by
  have HR := Lib.hid (fun W (hW : Grew w W) => refRight19 rs l rv bv W (hr.mono hW) (hv.mono hW) hf hrl hm)
  have kI := fun W (hW : Grew w W) => refFind19 l id rv bv W (hv.mono hW)
  have HD : RowKit.Hid (∀ n w', (¬ RightT ⟨rs, l⟩ → n = 1) → (RightT ⟨rs, l⟩ → n = if ((brFind l id).isSome || (top && (id == 0))) then 0 else 7) → Grew w w' → KnownEnd ⟨rs, l⟩ id top w (.returned (.int .i64 n)) w') := fun n w' h1 h2 h3 => ⟨n, rfl, h1, h2, h3⟩
  generalize KnownEnd ⟨rs, l⟩ id top w = KE at HD ⊢
  generalize RightT ⟨rs, l⟩ = PR at HR HD
  unfold TFindEnd at kI
  generalize hO : (brFind l id).isSome = os at kI HD
  generalize (brFind l id).getD br0 = y at kI
  obtain ⟨yi, yp, yl, yt, ym, yk⟩ := y
  dsimp only at kI
  have KI := Lib.hid kI
  obtain ⟨A, c, rfl, -, -, -⟩ := hv.open_
  obtain ⟨B, d, rfl, -, -, -⟩ := hr.open_
  clear hr hv hf hrl hm kI hO
  cases hb2 : (id == 0) <;> cases top <;> cases os
  all_goals
    rw [hb2] at HD
    go_enter Tryz.func103, Tryz.ntmps103
    go_wp2_with fail
    refine (HR.out _ ((Grew.refl w).alloc _)).mono ?_
    rintro e w1 ⟨q, rfl, hq, g1⟩
    have t0 := new_cell g1 0 _ rfl
    have t1 := new_cell g1 1 _ rfl
    have HG := Lib.hid (((Grew.refl w).alloc _).trans g1)
    have HQ := Lib.hid hq
    clear g1 hq
    dsimp only
    cases q
    · have Hn : RowKit.Hid (¬ PR) := fun h => by have := HQ.out.2 h; cases this
      go_wp2
      exact HD.out _ _ (fun _ => rfl) (fun h => absurd h Hn.out) HG.out
    · have Hy := Lib.hid (HQ.out.1 rfl)
      go_wp2_with fail
      refine (KI.out _ HG.out).mono ?_
      rintro e w2 ⟨rfl, g2⟩
      have HG2 := Lib.hid (HG.out.trans g2)
      clear g2 t0 t1
      dsimp only
      go_wp2
      exact HD.out _ _ (fun h => absurd Hy.out h) (fun _ => rfl) (HG2.out.alloc _)
/-- How the reference's Path ends. -/
def PathEnd (t : Tr) (id : Int) (w : World) (e : Ending) (w' : World) : Prop := ∃ v n r, e = .returned (.tuple #[v, .int .i64 n]) ∧ SlI w' v r ∧ Grew w w' ∧ (¬ RightT t → n = 1 ∧ r = []) ∧ (RightT t → (r, n) = pathR t.brs id)
theorem path_right {rs : List Int} {l : List Br} (hT : RightT ⟨rs, l⟩) {b : Br} (hb : b ∈ l) : pathW l b = pathF l b := by
  obtain ⟨h1, h2, h3, h4, h5, h6⟩ := hT
  obtain ⟨k, hk, rfl⟩ := List.mem_iff_getElem.1 hb
  exact (path_deep (alone_asc h2) (placed_up h3) hb).2 (h6 k hk)
set_option maxHeartbeats 8000000 in
theorem refPath (rs : List Int) (l : List Br) (id : Int) (rv bv : Value) (w : World) (hr : SlI w rv rs) (hv : SlBr w bv l) (hf : FewBr l) (hrl : rs.length ≤ 1000000) (hm : ∀ i (h : i < l.length), l[i].mark.size ≤ 9223372036854775807) :
    Calls Tryz.prog 74 #[.agg #[rv, bv], .int .i64 id] w (PathEnd ⟨rs, l⟩ id w) := by
  have HK := Lib.hid (fun W (hW : Grew w W) => refKnown rs l id false rv bv W (hr.mono hW) (hv.mono hW) hf hrl hm)
  have HP := Lib.hid (fun W (hW : Grew w W) (b : Br) (hT : RightT ⟨rs, l⟩) (hb : b ∈ l) => refPath19 l b rv bv W (hv.mono hW) hb (fun c hc => find_byid (alone_asc hT.2.1) hc) (alone_pos hT.2.1) (placed_up hT.2.2.1) hf.1)
  obtain ⟨A, c, rfl, -, -, -⟩ := hv.open_
  obtain ⟨B, d, rfl, -, -, -⟩ := hr.open_
  clear hr hv hf hrl hm
  have HD : RowKit.Hid (∀ v n r w', SlI w' v r → Grew w w' → (¬ RightT ⟨rs, l⟩ → n = 1 ∧ r = []) → (RightT ⟨rs, l⟩ → (r, n) = pathR l id) → PathEnd ⟨rs, l⟩ id w (.returned (.tuple #[v, .int .i64 n])) w') := fun v n r w' h0 h3 h1 h2 => ⟨v, n, r, rfl, h0, h3, h1, h2⟩
  generalize PathEnd ⟨rs, l⟩ id w = PE at HD ⊢
  go_enter Tryz.func74, Tryz.ntmps74
  go_wp2_with fail
  refine (HK.out _ ((Grew.refl w).alloc _)).mono ?_
  rintro e w1 ⟨n, rfl, h1, h2, g1⟩
  have t0 := new_cell g1 0 _ rfl
  have t1 := new_cell g1 1 _ rfl
  have HG := Lib.hid (((Grew.refl w).alloc _).trans g1)
  have H1 := Lib.hid h1
  have H2 := Lib.hid h2
  clear g1 h1 h2
  dsimp only
  by_cases hz : n = 0
  case neg =>
    have hz' : (n != 0) = true := by simpa using hz
    have HN : RowKit.Hid (RightT ⟨rs, l⟩ → ([], n) = pathR l id) := fun h => by
      have h3 := H2.out h
      unfold pathR
      cases ho : brFind l id with
      | none => rw [h3]; simp [ho]
      | some b => rw [ho] at h3; simp at h3; exact absurd h3 hz
    clear hz
    go_wp2
    exact HD.out _ _ [] _ (SlI.nil _) HG.out (fun h => ⟨H1.out h, rfl⟩) HN.out
  · subst hz
    have hT : RightT ⟨rs, l⟩ := Classical.byContradiction fun h => by have := H1.out h; omega
    have h3 := H2.out hT
    have hb : ∃ b, brFind l id = some b := by
      cases ho : brFind l id with
      | none => rw [ho] at h3; simp at h3
      | some b => exact ⟨b, rfl⟩
    obtain ⟨b, hb⟩ := hb
    have hin := find_in hb
    have kP := fun W hW => HP.out W hW b hT hin.1
    rw [hin.2, path_right hT hin.1] at kP
    have KP := Lib.hid kP
    have HR : RowKit.Hid ((pathF l b, 0) = pathR l id) := by
      show _ = _
      unfold pathR
      rw [hb]
    have HT := Lib.hid hT
    clear kP hin hb h3 hT
    go_wp2_with fail
    refine (KP.out _ HG.out).mono ?_
    rintro e w2 ⟨v2, rfl, s2, g2⟩
    have S2 := Lib.hid s2
    have HG2 := Lib.hid (HG.out.trans g2)
    clear s2 g2 t0 t1
    dsimp only
    go_wp2
    exact HD.out _ _ _ _ S2.out HG2.out (fun h => absurd HT.out h) (fun _ => HR.out)
theorem inhR_no {rs : List Int} {l : List Br} {a : List Auth} {rl : List Rel} {u r d : Int} (h : ¬ RightT ⟨rs, l⟩ ∨ asksF a rl ≠ 0) : inhR ⟨rs, l⟩ a rl u r d = (([], 0), 1) := by
  unfold inhR
  rw [if_pos h]
theorem inhR_err {rs : List Int} {l : List Br} {a : List Auth} {rl : List Rel} {u r d n : Int} (h1 : RightT ⟨rs, l⟩) (h2 : asksF a rl = 0) (hp : (pathR l u).2 ≠ 0 ∧ n = (pathR l u).2 ∨ (pathR l u).2 = 0 ∧ rangedF r d ≠ 0 ∧ n = rangedF r d) : inhR ⟨rs, l⟩ a rl u r d = (([], 0), n) := by
  have ho : orF [(pathR l u).2, rangedF r d] = n ∧ n ≠ 0 := by
    rcases hp with ⟨h, rfl⟩ | ⟨h, h3, rfl⟩
    · refine ⟨?_, h⟩
      simp [orF, h]
    · refine ⟨?_, h3⟩
      simp [orF, h, h3]
  unfold inhR
  rw [if_neg (by rw [not_or, Classical.not_not, Decidable.not_not]; exact ⟨h1, h2⟩)]
  simp only [ho.1]
  rw [if_pos ho.2]
theorem inhR_yes {rs : List Int} {l : List Br} {a : List Auth} {rl : List Rel} {u r d : Int} {p : List Int} (h1 : RightT ⟨rs, l⟩) (h2 : asksF a rl = 0) (hp : (p, 0) = pathR l u) (h3 : rangedF r d = 0) : inhR ⟨rs, l⟩ a rl u r d = (inhF rl r d p.reverse, 0) := by
  unfold inhR
  rw [if_neg (by rw [not_or, Classical.not_not, Decidable.not_not]; exact ⟨h1, h2⟩)]
  simp only [← hp, h3]
  rw [if_neg (by simp [orF])]
theorem inhF_step (rl : List Rel) (r d : Int) (p : List Int) (k : Nat) (h : k < p.length) : inhF rl r d (p.take (k + 1)).reverse = if holdersF rl p[k] r d = [] then inhF rl r d (p.take k).reverse else (holdersF rl p[k] r d, p[k]) := by
  rw [List.take_succ_eq_append_getElem h, List.reverse_append]
  rfl
set_option maxHeartbeats 16000000 in
set_option maxRecDepth 100000 in
theorem refInh (rs : List Int) (br : List Br) (a : List Auth) (l : List Rel) (unit r d : Int) (rv bv av lv : Value) (w : World) (hr : SlI w rv rs) (hv : SlBr w bv br) (hfb : FewBr br) (hrl : rs.length ≤ 1000000) (hm : ∀ i (h : i < br.length), br[i].mark.size ≤ 9223372036854775807) (ha : SlAu w av a) (hl : SlR w lv l) (hll : l.length ≤ 1000000) (hpl : RightT ⟨rs, br⟩ → (pathR br unit).1.length ≤ 1000000) :
    Calls Tryz.prog 31 #[.agg #[rv, bv], av, lv, .int .i64 unit, .int .i64 r, .int .i64 d] w (RetInh (inhR ⟨rs, br⟩ a l unit r d) w) := by
  have HT := Lib.hid (fun W (hW : Grew w W) => refRight19 rs br rv bv W (hr.mono hW) (hv.mono hW) hfb hrl hm)
  have HA := Lib.hid (fun W (hW : Grew w W) => refRight26 a l av lv W (ha.mono hW) (hl.mono hW))
  have HP := Lib.hid (fun W (hW : Grew w W) => refPath rs br unit rv bv W (hr.mono hW) (hv.mono hW) hfb hrl hm)
  have HH := Lib.hid (fun u W (hW : Grew w W) => refHoldersIn l u r d lv W (hl.mono hW) hll)
  have HQ := Lib.hid (refAsked r d)
  have HN := Lib.hid (@inhR_no rs br a l unit r d)
  have HE := Lib.hid (fun n => @inhR_err rs br a l unit r d n)
  have HY := Lib.hid (fun p => @inhR_yes rs br a l unit r d p)
  have HS := Lib.hid (inhF_step l r d)
  have HPL := Lib.hid hpl
  generalize inhR ⟨rs, br⟩ a l unit r d = RES at HN HE HY ⊢
  obtain ⟨A, c, rfl, -, -, -⟩ := hv.open_
  obtain ⟨B, d', rfl, -, -, -⟩ := hr.open_
  obtain ⟨A1, c1, rfl, -, -, -⟩ := ha.open_
  obtain ⟨A2, c2, rfl, -, -, -⟩ := hl.open_
  clear hr hv hfb hrl hm ha hl hll hpl
  go_enter Tryz.func31, Tryz.ntmps31
  go_wp2_with fail
  refine (HT.out _ ((Grew.refl w).alloc _)).mono ?_
  rintro e w1 ⟨q, rfl, hq, g1⟩
  have B1 := Lib.hid g1
  have HG := Lib.hid (((Grew.refl w).alloc _).trans g1)
  have HQ1 := Lib.hid hq
  clear g1 hq
  dsimp only
  cases q
  · have hRes := HN.out (.inl (fun h => by have := HQ1.out.2 h; cases this))
    subst hRes
    go_wp2
    go_ret3
    exact ⟨_, rfl, SlI.nil _, HG.out⟩
  have HTT := Lib.hid (HQ1.out.1 rfl)
  go_wp2_with fail
  refine (HA.out _ HG.out).mono ?_
  rintro e w2 ⟨rfl, g2⟩
  have B2 := Lib.hid (B1.out.trans g2)
  have HG2 := Lib.hid (HG.out.trans g2)
  clear g2
  dsimp only
  by_cases h0 : asksF a l = 0
  case neg =>
    have hRes := HN.out (.inr h0)
    subst hRes
    rw [decide_eq_false h0]
    clear h0
    go_wp2
    go_ret3
    exact ⟨_, rfl, SlI.nil _, HG2.out⟩
  have H0 := Lib.hid h0
  rw [decide_eq_true h0]
  have t0 := new_cell B2.out 0 _ rfl
  have t1 := new_cell B2.out 1 _ rfl
  clear h0
  go_wp2_with fail
  refine (HP.out _ HG2.out).mono ?_
  rintro e w3 ⟨v3, n, p, rfl, s3, g3, -, hp⟩
  have HPR := Lib.hid (hp HTT.out)
  have S3 := Lib.hid s3
  have HG3 := Lib.hid (HG2.out.trans g3)
  have HPL2 := Lib.hid (show p.length ≤ 1000000 by have := HPL.out HTT.out; rw [← HPR.out] at this; exact this)
  clear s3 g3 hp t0 t1
  dsimp only
  by_cases hn : n = 0
  case neg =>
    have hn' : (n != 0) = true := by simpa using hn
    have hRes := HE.out n HTT.out H0.out (.inl (by rw [← HPR.out]; exact ⟨hn, rfl⟩))
    subst hRes
    obtain ⟨A3, c3, rfl, -, -, -⟩ := S3.out.open_
    clear hn
    go_wp2
    go_ret3
    exact ⟨_, rfl, SlI.nil _, HG3.out⟩
  subst hn
  obtain ⟨A3, c3, rfl, hl3, hc3, hr3⟩ := S3.out.open_
  unfold maxLen at hc3
  have HR3 := Lib.hid hr3
  clear hr3
  go_wp2_with fail
  refine (HQ.out _).mono ?_
  rintro e w4 ⟨rfl, rfl⟩
  dsimp only
  by_cases hr0 : rangedF r d = 0
  case neg =>
    have hRes := HE.out (rangedF r d) HTT.out H0.out (.inr (by rw [← HPR.out]; exact ⟨rfl, hr0, rfl⟩))
    subst hRes
    have hr0' : (rangedF r d != 0) = true := by simpa using hr0
    clear hr0
    go_wp2
    go_ret3
    exact ⟨_, rfl, SlI.nil _, HG3.out⟩
  have hRes := HY.out p HTT.out H0.out HPR.out hr0
  rw [hr0]
  generalize hI : inhF l r d p.reverse = RI at hRes
  have HI := Lib.hid hI
  subst hRes
  clear hr0 hI
  have hpl := HPL2.out
  go_wp2
  go_loopg [18] (p.length + 1) (fun gg s18 wr => ∃ k : Nat, k ≤ p.length ∧ k + 1 ≤ gg ∧ s18 = .int .i64 ((k : Int) - 1) ∧ Aside (Grew w3 wr) ∧ Aside (inhF l r d (p.take k).reverse = RI))
  case atStart => exact ⟨p.length, by omega, by omega, rfl, (show Aside _ from Grew.refl _), (show Aside _ from by rw [List.take_length]; exact HI.out)⟩
  case round =>
    obtain ⟨k, hk, hgk, rfl, BW, M⟩ := hrel
    have GW := Lib.hid (HG3.out.trans BW.out)
    cases k with
    | zero =>
      have hRI : (([] : List Int), (0 : Int)) = RI := M.out
      subst hRI
      go_wp2
      go_ret3
      exact ⟨_, rfl, SlI.nil _, GW.out⟩
    | succ k =>
      have hkk : ((k + 1 : Nat) : Int) - 1 = (k : Int) := by omega
      rw [hkk]
      have h0z : (0 : Int) ≤ (k : Int) := by omega
      have hkz : (k : Int) < (p.length : Int) := by omega
      have hst := HS.out p k (by omega)
      rw [M.out] at hst
      obtain ⟨b, off, rfl, hb, hcell⟩ := HR3.out (by omega)
      have c0 := hcell wr BW.out k (by omega)
      have kH := HH.out p[k] wr GW.out
      generalize holdersF l p[k] r d = HF at kH hst
      generalize p[k] = u at c0 kH hst
      have KH := Lib.hid kH
      have HST := Lib.hid hst
      clear kH hst hcell M
      go_wp2_with fail
      refine KH.out.mono ?_
      rintro e w5 ⟨v5, rfl, s5, g5⟩
      have f0 := keep_cell g5 c0
      have S5 := Lib.hid s5
      have BW5 := Lib.hid (BW.out.trans g5)
      have GW5 := Lib.hid (GW.out.trans g5)
      obtain ⟨A5, c5, rfl, hl5, hc5, -⟩ := s5.open_
      unfold maxLen at hc5
      clear g5 c0 KH s5
      dsimp only
      by_cases hF : HF = []
      · have hz : ¬ (0 : Int) < (HF.length : Int) := by rw [hF]; simp
        have hz2 : ¬ 0 < HF.length := by rw [hF]; simp
        have HM2 := Lib.hid (show inhF l r d (p.take k).reverse = RI by rw [HST.out, if_pos hF])
        clear hF f0
        go_wp2
        go_roundg (k + 1)
        case measure => omega
        case rel => exact ⟨k, by omega, by omega, by first | rfl | go_num, (show Aside _ from BW5.out), (show Aside _ from HM2.out)⟩
      · have hz2 : 0 < HF.length := List.length_pos_iff.2 hF
        have hz : (0 : Int) < (HF.length : Int) := by omega
        have hRI : RI = (HF, u) := by rw [HST.out, if_neg hF]
        subst hRI
        clear hF HST
        go_wp2
        go_quiet (fail)
        clear f0
        go_wp2
        go_ret3
        exact ⟨_, rfl, Rd.mono S5.out (Grew.drewN (Grew.refl _) _), GW5.out.drewN _⟩
end Go.Proofs.YtfghbendiofbeaaGreatDoor
