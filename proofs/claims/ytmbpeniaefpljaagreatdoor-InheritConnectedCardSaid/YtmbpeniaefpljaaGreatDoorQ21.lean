/- Lemmas on what the functions of the program and of the library compute: RE4, PlainU, RE5, J2, J3, J4, Bk1, Bw1, Bw2. The conditions stand at each. -/
import Derived.Test.YtmbpeniaefpljaaGreatDoorQ14
import Derived.Test.YtmbpeniaefpljaaGreatDoorQ5
import Derived.Test.YtmbpeniaefpljaaGreatDoorQ19
import Derived.Test.YtmbpeniaefpljaaGreatDoorQ20
import Derived.Test.YtmbpeniaefpljaaGreatDoorQ4
import Derived.Test.YtmbpeniaefpljaaGreatDoorQ18
import Derived.Test.YtmbpeniaefpljaaGreatDoorQ15
import Derived.Test.YtmbpeniaefpljaaGreatDoorQ16
import Derived.Test.YtmbpeniaefpljaaGreatDoorQ7
import Derived.RangeFuncLeaves
import Derived.RangeFuncBox
import Derived.OwnWalkIn
import Derived.TacticsInMore
import Derived.LoopNIn
import Derived.LoopIn
import Derived.Maps.AppendAt
/- The reference's path of a unit, walked. The conditions: every unit is found by its number, and stands below one that is there; the list is short. -/
namespace Go.Proofs.YtmbpeniaefpljaaGreatDoor
open Go.RowKit

theorem own_lit1 {W : World} {base : Nat} {e : TypeId} {x : Value} (H : Nat) (hH : W.heap.size = H) (hb : base ≤ H) : (W.alloc (.cells #[x] e)).ownsRow base e 1 (.slice (some ⟨H, 0, none⟩) 1 1) 1 [x] := by
  subst hH
  exact ⟨by simp, .inr ⟨W.heap.size, 1, #[x], rfl, hb, heap_alloc_new W _, Nat.le_refl _, (by unfold maxLen; omega), rfl, rfl⟩⟩
theorem path_own {w : World} {base : Nat} {v : Value} {x : Int} {out : List Int} (h : w.ownsRow base 3 1 v (1 + out.length) ([.int .i64 x] ++ out.flatMap oneI)) : ∃ A c, v = .slice A (out.length + 1) c ∧ SlI w (.slice A (out.length + 1) c) (x :: out) := by
  have e : ([.int .i64 x] ++ out.flatMap oneI) = (x :: out).flatMap oneI := by simp [oneI]
  rw [e, Nat.add_comm] at h
  have hs : SlI w v (x :: out) := Rd.of_own h
  obtain ⟨A, c, hv, -⟩ := hs.open_
  rw [List.length_cons] at hv
  subst hv
  exact ⟨A, c, rfl, hs⟩
def idOf : Option Br → Int
  | none => 0
  | some c => c.id
def goOn (l : List Br) (f : Nat) (out : List Int) : Option Br → List Int
  | none => out
  | some c => match upW l f c with
    | none => []
    | some ids => ids.reverse ++ out
theorem goOn_zero (l : List Br) (out : List Int) (c : Br) : goOn l 0 out (some c) = [] := rfl
theorem goOn_top (l : List Br) (f : Nat) (out : List Int) (c : Br) (h : c.parent = 0) : goOn l (f + 1) out (some c) = goOn l f (c.id :: out) none := by simp [goOn, upW, h]
theorem goOn_up (l : List Br) (f : Nat) (out : List Int) (c p : Br) (h : c.parent ≠ 0) (hp : brFind l c.parent = some p) : goOn l (f + 1) out (some c) = goOn l f (c.id :: out) (some p) := by
  simp only [goOn, upW, if_neg h, hp]
  cases upW l f p <;> simp
set_option maxHeartbeats 8000000 in
set_option maxRecDepth 100000 in
theorem refPath19 (l : List Br) (b : Br) (rv bv : Value) (w : World) (hv : SlBr w bv l) (hb : b ∈ l) (hf : ∀ c ∈ l, brFind l c.id = some c) (hz : ∀ c ∈ l, c.id ≠ 0) (hu : upOk l) (hl : l.length ≤ 1000000) :
    Calls Tryz.prog 150 #[.agg #[rv, bv], .int .i64 b.id] w (RetI (pathW l b) w) := by
  have HF := Lib.hid (fun n W (hW : Grew w W) => refFind19 l n rv bv W (hv.mono hW))
  have HB := Lib.hid hf
  have HZ := Lib.hid hz
  have HU := Lib.hid hu
  have hR : pathW l b = goOn l l.length [] (some b) := by
    show _ = match upW l l.length b with
      | none => []
      | some ids => ids.reverse ++ []
    unfold pathW
    cases upW l l.length b <;> simp
  rw [hR]
  generalize hR0 : goOn l l.length [] (some b) = R
  have HR := Lib.hid hR0
  have HM := Lib.hid hb
  obtain ⟨A, c, rfl, hlc, hc, -⟩ := hv.open_
  unfold maxLen at hc
  obtain ⟨k0, hk0, hx0, hx1, hx2⟩ := info_parts cinfoI
  generalize hid : b.id = bid
  have HID := Lib.hid hid
  clear hv hb hf hz hu hR hR0 hid
  go_enter Tryz.func150, Tryz.ntmps150
  go_wp2
  go_loopg [1, 5] (l.length + 1) (fun gg s1 s5 wr => ∃ (m : Nat) (cur : Option Br) (out : List Int), m ≤ l.length ∧ l.length + 1 - m ≤ gg ∧ out.length = m ∧ s1 = .int .i64 (idOf cur) ∧ Aside (SlI wr s5 out) ∧ Aside (Grew (w.alloc (.cells [rv, .slice A l.length c].toArray 25)) wr) ∧ Aside (∀ c, cur = some c → c ∈ l) ∧ Aside (goOn l (l.length - m) out cur = R))
  case atStart => exact ⟨0, some b, [], by omega, by omega, rfl, by rw [← HID.out]; rfl, (show Aside _ from SlI.nil _), (show Aside _ from Grew.refl _), (show Aside _ from fun c h => by cases h; exact HM.out), (show Aside _ from HR.out)⟩
  case round =>
    obtain ⟨m, cur, out, hm, hgm, rfl, rfl, OW, BW, HC, HG⟩ := hrel
    have GW := Lib.hid (((Grew.refl w).alloc _).trans BW.out)
    cases cur with
    | none =>
      have hRR : out = R := HG.out
      subst hRR
      clear HG HC
      unfold idOf
      go_wp2
      go_ret
      exact ⟨_, rfl, OW.out, GW.out⟩
    | some y =>
    have hmem := HC.out y rfl
    have hne : (y.id != 0) = true := by simpa using HZ.out y hmem
    have kF := fun W (hW : Grew w W) => HF.out y.id W hW
    simp only [HB.out y hmem] at kF
    have KF := Lib.hid kF
    obtain ⟨A5, c5, rfl, hl5, hc5, -⟩ := OW.out.open_
    unfold maxLen at hc5
    have HUP := Lib.hid (HU.out y hmem)
    have HT := Lib.hid (fun f => goOn_top l f out y)
    have HV := Lib.hid (fun f p => goOn_up l f out y p)
    have t0 := new_cell BW.out 0 _ rfl
    have t1 := new_cell BW.out 1 _ rfl
    unfold idOf
    obtain ⟨yi, yp, yl, yt, ym, yk⟩ := y
    dsimp only at hne KF HUP HT HV ⊢
    have hfl : (out.flatMap oneI).length = out.length * 1 := flatMap_len oneI 1 (fun _ => rfl) out
    have HFL := Lib.hid hfl
    clear kF hfl hmem
    by_cases hover : l.length < out.length + 1
    · have hoverz : (l.length : Int) < (out.length : Int) + 1 := by omega
      have hRR : R = [] := by
        have h := HG.out
        rw [show l.length - out.length = 0 by omega, goOn_zero] at h
        exact h.symm
      subst hRR
      clear HG HC HT HV HUP hover
      go_wp2_with fail
      refine (KF.out _ GW.out).mono ?_
      rintro e w2 ⟨rfl, g2⟩
      have HG2 := Lib.hid ((BW.out.trans g2).alloc (.cells #[.int .i64 yi, .int .i64 yp, .int .i64 yl, .string yt, .string ym] 51))
      have G2 := Lib.hid ((GW.out.trans g2).alloc (.cells #[.int .i64 yi, .int .i64 yp, .int .i64 yl, .string yt, .string ym] 51))
      have OW2 := Lib.hid (OW.out.mono (g2.alloc (.cells #[.int .i64 yi, .int .i64 yp, .int .i64 yl, .string yt, .string ym] 51)))
      have u1 := new_cell (Grew.refl (w2.alloc (.cells #[.int .i64 yi, .int .i64 yp, .int .i64 yl, .string yt, .string ym] 51))) 1 _ rfl
      have HU1 := Lib.hid u1
      clear g2 t0 t1 u1 KF
      dsimp only
      go_wp2_with (at_builtin; refine appR rfl _ _ 22 rfl (w2.alloc (.cells #[.int .i64 yi, .int .i64 yp, .int .i64 yl, .string yt, .string ym] 51)) 3 k0 (.int .i64 0) 1 8 Tryz.underlying22 hk0 hx0 hx1 hx2 rfl (by omega) _ 1 [.int .i64 yi] (by rfl) _ (own_lit1 _ (by simp) (by simp)) ((Grew.refl _).alloc _) _ out.length (out.flatMap oneI) (by rfl) (Rd.mono OW2.out ((Grew.refl _).alloc _)) HFL.out (one_cellsI _) (by unfold maxLen; omega) (by omega) ?_; intro v5 w5 o5 g5 _; obtain ⟨A6, c6, rfl, ho5⟩ := path_own o5; have O5 := Lib.hid ho5; have tt1 := new_cell (HG2.out.trans g5) 1 _ rfl; have uu1 := keep_cell g5 HU1.out; have G5 := Lib.hid (G2.out.trans g5); have BW5 := Lib.hid (HG2.out.trans g5); clear o5 g5 ho5)
      go_ret
      exact ⟨_, rfl, SlI.nil _, G5.out⟩
    have hoverz : ¬ (l.length : Int) < (out.length : Int) + 1 := by omega
    have hnx : ∃ cur' : Option Br, idOf cur' = yp ∧ (∀ c, cur' = some c → c ∈ l) ∧ goOn l (l.length - (out.length + 1)) (yi :: out) cur' = R := by
      have h := HG.out
      rw [show l.length - out.length = (l.length - (out.length + 1)) + 1 by omega] at h
      by_cases hp : yp = 0
      · refine ⟨none, by rw [hp]; rfl, (fun c h => by cases h), ?_⟩
        rw [HT.out _ hp] at h
        exact h
      · rcases HUP.out with h1 | ⟨q, hq⟩
        · exact absurd h1 hp
        · refine ⟨some q, (find_in hq).2, (fun c h => by cases h; exact (find_in hq).1), ?_⟩
          rw [HV.out _ q hp hq] at h
          exact h
    obtain ⟨cur', hc1, hc2, hc3⟩ := hnx
    have H1 := Lib.hid hc1
    have H2 := Lib.hid hc2
    have H3 := Lib.hid hc3
    clear hc1 hc2 hc3 hover HG HC HT HV HUP
    go_wp2_with fail
    refine (KF.out _ GW.out).mono ?_
    rintro e w2 ⟨rfl, g2⟩
    have HG2 := Lib.hid ((BW.out.trans g2).alloc (.cells #[.int .i64 yi, .int .i64 yp, .int .i64 yl, .string yt, .string ym] 51))
    have G2 := Lib.hid ((GW.out.trans g2).alloc (.cells #[.int .i64 yi, .int .i64 yp, .int .i64 yl, .string yt, .string ym] 51))
    have OW2 := Lib.hid (OW.out.mono (g2.alloc (.cells #[.int .i64 yi, .int .i64 yp, .int .i64 yl, .string yt, .string ym] 51)))
    have u1 := new_cell (Grew.refl (w2.alloc (.cells #[.int .i64 yi, .int .i64 yp, .int .i64 yl, .string yt, .string ym] 51))) 1 _ rfl
    have HU1 := Lib.hid u1
    clear g2 t0 t1 u1 KF
    dsimp only
    go_wp2_with (at_builtin; refine appR rfl _ _ 22 rfl (w2.alloc (.cells #[.int .i64 yi, .int .i64 yp, .int .i64 yl, .string yt, .string ym] 51)) 3 k0 (.int .i64 0) 1 8 Tryz.underlying22 hk0 hx0 hx1 hx2 rfl (by omega) _ 1 [.int .i64 yi] (by rfl) _ (own_lit1 _ (by simp) (by simp)) ((Grew.refl _).alloc _) _ out.length (out.flatMap oneI) (by rfl) (Rd.mono OW2.out ((Grew.refl _).alloc _)) HFL.out (one_cellsI _) (by unfold maxLen; omega) (by omega) ?_; intro v5 w5 o5 g5 _; obtain ⟨A6, c6, rfl, ho5⟩ := path_own o5; have O5 := Lib.hid ho5; have tt1 := new_cell (HG2.out.trans g5) 1 _ rfl; have uu1 := keep_cell g5 HU1.out; have G5 := Lib.hid (G2.out.trans g5); have BW5 := Lib.hid (HG2.out.trans g5); clear o5 g5 ho5)
    go_roundg (l.length + 1 - (out.length + 1))
    case measure => omega
    case rel => exact ⟨out.length + 1, cur', yi :: out, by omega, by omega, by rw [List.length_cons], by rw [H1.out], (show Aside _ from O5.out), (show Aside _ from BW5.out), (show Aside _ from H2.out), (show Aside _ from H3.out)⟩
end Go.Proofs.YtmbpeniaefpljaaGreatDoor

/- What relation.Check says of a right list, plainly. No condition. -/
namespace Go.Proofs.YtmbpeniaefpljaaGreatDoor
open Go.RowKit

theorem adj_pairwise {α : Type} {r : α → α → Prop} (tr : ∀ a b c, r a b → r b c → r a c) : ∀ (l : List α), (∀ (i : Nat) (h : i + 1 < l.length), r (l[i]'(by omega)) (l[i + 1]'h)) → l.Pairwise r
  | [], _ => List.Pairwise.nil
  | [_], _ => by simp
  | a :: b :: m, h => by
    have ih := adj_pairwise (r := r) tr (b :: m) (fun i hi => h (i + 1) (by simpa using hi))
    have hab : r a b := h 0 (by simp)
    refine List.Pairwise.cons ?_ ih
    intro x hx
    rcases List.mem_cons.1 hx with rfl | hx
    · exact hab
    · exact tr _ _ _ hab (List.rel_of_pairwise_cons ih hx)
end Go.Proofs.YtmbpeniaefpljaaGreatDoor

/- The reference's Check and Right of a tree, walked. The conditions: the lists are short, and the marks no longer than a string can be. -/
namespace Go.Proofs.YtmbpeniaefpljaaGreatDoor
open Go.RowKit

theorem alone_asc {l : List Br} (h : ∀ i (hi : i < l.length), BrAlone l i hi) : idsAsc l :=
  adj_pairwise (r := fun (a b : Br) => a.id < b.id) (fun (_ _ _ : Br) h1 h2 => Int.lt_trans h1 h2) l (fun i hi => by
    have := (h (i + 1) hi).2.2.1 (by omega)
    simpa using this)
theorem alone_pos {l : List Br} (h : ∀ i (hi : i < l.length), BrAlone l i hi) : ∀ b ∈ l, b.id ≠ 0 := fun b hb e => by
  obtain ⟨k, hk, rfl⟩ := List.mem_iff_getElem.1 hb
  have := within_t.1 (h k hk).1
  omega
theorem placed_up {l : List Br} (h : ∀ i (hi : i < l.length), BrPlaced l l[i]) : upOk l := fun b hb => by
  obtain ⟨k, hk, rfl⟩ := List.mem_iff_getElem.1 hb
  have := h k hk
  unfold BrPlaced at this
  by_cases hp : l[k].parent = 0
  · exact .inl hp
  · rw [if_neg hp] at this
    obtain ⟨p, hpp, _⟩ := this
    exact .inr ⟨p, hpp⟩
set_option maxHeartbeats 16000000 in
set_option maxRecDepth 100000 in
theorem refCheck19 (rs : List Int) (l : List Br) (rv bv : Value) (w : World) (hr : SlI w rv rs) (hv : SlBr w bv l) (hf : FewBr l) (hrl : rs.length ≤ 1000000) (hm : ∀ i (h : i < l.length), l[i].mark.size ≤ 9223372036854775807) :
    Calls Tryz.prog 117 #[.agg #[rv, bv]] w (RetIff2 (RightT ⟨rs, l⟩) w) := by
  have HO := Lib.hid (fun i (hi : i < l.length) W (hW : Grew w W) => refOwn19 l i hi rv bv W (hv.mono hW) (hm i hi))
  have HP := Lib.hid (fun y W (hW : Grew w W) => refPlace l y rv bv W (hv.mono hW))
  have HK := Lib.hid (fun ks p kv W (hW : Grew w W) (hk : SlI w kv ks) (h : ks.length ≤ 1000000) => refKids l ks p rv bv kv W (hv.mono hW) (hk.mono hW) hf.1 h)
  have HK0 := Lib.hid (fun p W (hW : Grew w W) => refKids l rs p rv bv rv W (hv.mono hW) (hr.mono hW) hf.1 hrl)
  have HW := Lib.hid (fun b W (hW : Grew w W) hb h1 h2 h3 => refPath19 l b rv bv W (hv.mono hW) hb h1 h2 h3 hf.1)
  have HD : RowKit.Hid (RightT ⟨rs, l⟩ ↔ l.length ≤ 256 ∧ (∀ i (h : i < l.length), BrAlone l i h) ∧ (∀ i (h : i < l.length), BrPlaced l l[i]) ∧ (∀ i (h : i < l.length), sortI l[i].kids = kidsOf l l[i].id) ∧ sortI rs = kidsOf l 0 ∧ ∀ i (h : i < l.length), BrDeep l l[i]) := Iff.rfl
  have HFK := Lib.hid hf.2
  generalize RightT ⟨rs, l⟩ = PR at HD ⊢
  obtain ⟨A, c, rfl, hlc, hc, hcell0⟩ := hv.open_
  obtain ⟨B, d, rfl, -, -, -⟩ := hr.open_
  unfold maxLen at hc
  have HR := Lib.hid hcell0
  have hl6 := hf.1
  clear hcell0 hv hr hf hm hrl
  by_cases h256 : 256 < l.length
  · have h256' : (256 : Int) < (l.length : Int) := by omega
    have Hn : RowKit.Hid (¬ PR) := fun h => by have := (HD.out.1 h).1; omega
    clear h256
    go_enter Tryz.func117, Tryz.ntmps117
    go_wp2
    go_ret2
    exact RetIff2.no _ 8 (by decide) Hn.out ((Grew.refl w).alloc _)
  have h256' : ¬ (256 : Int) < (l.length : Int) := by omega
  go_enter Tryz.func117, Tryz.ntmps117
  go_wp2
  go_loopg [4] l.length (fun gg s wr => ∃ k : Nat, k ≤ l.length ∧ l.length - k ≤ gg ∧ s = .int .i64 k ∧ Aside (Grew (w.alloc (.cells [.slice B rs.length d, .slice A l.length c].toArray 25)) wr) ∧ Aside (∀ j (h : j < l.length), j < k → BrAlone l j h))
  case atStart => exact ⟨0, by omega, by omega, rfl, (show Aside _ from Grew.refl _), (show Aside _ from fun j h h2 => absurd h2 (Nat.not_lt_zero _))⟩
  case round =>
    obtain ⟨k, hk, hgk, rfl, BW, M⟩ := hrel
    have GW := Lib.hid (((Grew.refl w).alloc _).trans BW.out)
    have t0 := new_cell BW.out 0 _ rfl
    have t1 := new_cell BW.out 1 _ rfl
    by_cases hlt : k < l.length
    · have hltz : (k : Int) < (l.length : Int) := by omega
      have kO := HO.out k hlt wr GW.out
      have hPK : ∃ PK, RowKit.Hid (BrAlone l k hlt = PK) := ⟨_, rfl⟩
      obtain ⟨PK, HPK⟩ := hPK
      have HN : RowKit.Hid (¬ PK → ¬ PR) := by rw [← HPK.out]; exact fun h h2 => h ((HD.out.1 h2).2.1 k hlt)
      have HY : RowKit.Hid (PK → ∀ j (h : j < l.length), j < k + 1 → BrAlone l j h) := by
        rw [← HPK.out]
        exact fun h j hj h2 => by
          by_cases e : j = k
          · subst e; exact h
          · exact M.out j hj (by omega)
      rw [HPK.out] at kO
      have KO := Lib.hid kO
      clear kO M
      go_wp2_with fail
      refine KO.out.mono ?_
      rintro e w1 ⟨n, rfl, hn, g1⟩
      have HG := Lib.hid (GW.out.trans g1)
      have BG := Lib.hid (BW.out.trans g1)
      clear g1 KO t0 t1
      have HNN := Lib.hid hn
      clear hn
      dsimp only
      by_cases hz : n = 0
      case neg =>
        have hz' : (n != 0) = true := by simpa using hz
        have Hz := Lib.hid hz
        have Hn := Lib.hid (HN.out (fun h => hz (HNN.out.2 h)))
        clear hz
        go_wp2
        go_ret2
        exact RetIff2.no _ n Hz.out Hn.out HG.out
      · subst hz
        have Hy := Lib.hid (HY.out (HNN.out.1 rfl))
        go_wp2
        go_roundg (l.length - (k + 1))
        case measure => omega
        case rel => exact ⟨k + 1, by omega, by omega, by go_num, (show Aside _ from BG.out), (show Aside _ from Hy.out)⟩
    have hltz : ¬ (k : Int) < (l.length : Int) := by omega
    have HALL1 : RowKit.Hid (∀ j (h : j < l.length), BrAlone l j h) := fun j h => M.out j h (by omega)
    clear M
    go_wp2
    clear t0 t1
    go_loopg [6] l.length (fun gg s wr => ∃ k : Nat, k ≤ l.length ∧ l.length - k ≤ gg ∧ s = .int .i64 k ∧ Aside (Grew (w.alloc (.cells [.slice B rs.length d, .slice A l.length c].toArray 25)) wr) ∧ Aside (∀ j (h : j < l.length), j < k → BrPlaced l l[j]))
    case atStart => exact ⟨0, by omega, by omega, rfl, (show Aside _ from BW.out), (show Aside _ from fun j h h2 => absurd h2 (Nat.not_lt_zero _))⟩
    case round =>
      obtain ⟨k, hk, hgk, rfl, BW, M⟩ := hrel
      have GW := Lib.hid (((Grew.refl w).alloc _).trans BW.out)
      have t0 := new_cell BW.out 0 _ rfl
      have t1 := new_cell BW.out 1 _ rfl
      by_cases hlt : k < l.length
      · have hltz : (k : Int) < (l.length : Int) := by omega
        have h0z : (0 : Int) ≤ (k : Int) := by omega
        obtain ⟨b, off, rfl, hb, hcell⟩ := HR.out (by omega)
        obtain ⟨kv, hkv, hcl⟩ := hcell k hlt
        obtain ⟨c0, c1, c2, c3, c4, c5⟩ := hcl wr GW.out
        have kP := fun W hW => HP.out l[k] W hW
        have hPK : ∃ PK, RowKit.Hid (BrPlaced l l[k] = PK) := ⟨_, rfl⟩
        obtain ⟨PK, HPK⟩ := hPK
        have HN : RowKit.Hid (¬ PK → ¬ PR) := by rw [← HPK.out]; exact fun h h2 => h ((HD.out.1 h2).2.2.1 k hlt)
        have HY : RowKit.Hid (PK → ∀ j (h : j < l.length), j < k + 1 → BrPlaced l l[j]) := by
          rw [← HPK.out]
          exact fun h j hj h2 => by
            by_cases e : j = k
            · subst e; exact h
            · exact M.out j hj (by omega)
        rw [HPK.out] at kP
        generalize l[k] = y at c0 c1 c2 c3 c4 c5 kP hkv
        obtain ⟨yi, yp, yl, yt, ym, yk⟩ := y
        dsimp only at c0 c1 c2 c3 c4 c5 kP hkv
        have KP := Lib.hid kP
        clear kP M hcell hcl hkv c5
        go_wp2_with fail
        refine region_still_tail 7 (by kernel_rfl) (by kernel_rfl) ?_
        simp only [List.take_succ_cons, List.take_zero, List.drop_succ_cons, List.drop_zero]
        iterate 7 still_step
        refine wpStill_nil ?_
        go_wp2_with fail
        refine (KP.out _ GW.out.drew).mono ?_
        rintro e w1 ⟨n, rfl, hn, g1⟩
        have HG := Lib.hid (GW.out.drew.trans g1)
        have BG := Lib.hid (BW.out.drew.trans g1)
        clear g1 KP t0 t1 c0 c1 c2 c3 c4
        have HNN := Lib.hid hn
        clear hn
        dsimp only
        by_cases hz : n = 0
        case neg =>
          have hz' : (n != 0) = true := by simpa using hz
          have Hz := Lib.hid hz
          have Hn := Lib.hid (HN.out (fun h => hz (HNN.out.2 h)))
          clear hz
          go_wp2
          go_ret2
          exact RetIff2.no _ n Hz.out Hn.out HG.out
        · subst hz
          have Hy := Lib.hid (HY.out (HNN.out.1 rfl))
          go_wp2
          go_roundg (l.length - (k + 1))
          case measure => omega
          case rel => exact ⟨k + 1, by omega, by omega, by go_num, (show Aside _ from BG.out), (show Aside _ from Hy.out)⟩
      have hltz : ¬ (k : Int) < (l.length : Int) := by omega
      have HALL2 : RowKit.Hid (∀ j (h : j < l.length), BrPlaced l l[j]) := fun j h => M.out j h (by omega)
      have HASC := Lib.hid (alone_asc HALL1.out)
      clear M
      go_wp2
      clear t0 t1
      go_loopg [8] l.length (fun gg s wr => ∃ k : Nat, k ≤ l.length ∧ l.length - k ≤ gg ∧ s = .int .i64 k ∧ Aside (Grew (w.alloc (.cells [.slice B rs.length d, .slice A l.length c].toArray 25)) wr) ∧ Aside (∀ j (h : j < l.length), j < k → sortI l[j].kids = kidsOf l l[j].id))
      case atStart => exact ⟨0, by omega, by omega, rfl, (show Aside _ from BW.out), (show Aside _ from fun j h h2 => absurd h2 (Nat.not_lt_zero _))⟩
      case round =>
        obtain ⟨k, hk, hgk, rfl, BW, M⟩ := hrel
        have GW := Lib.hid (((Grew.refl w).alloc _).trans BW.out)
        have t0 := new_cell BW.out 0 _ rfl
        have t1 := new_cell BW.out 1 _ rfl
        by_cases hlt : k < l.length
        · have hltz : (k : Int) < (l.length : Int) := by omega
          have h0z : (0 : Int) ≤ (k : Int) := by omega
          obtain ⟨b, off, rfl, hb, hcell⟩ := HR.out (by omega)
          obtain ⟨kv, hkv, hcl⟩ := hcell k hlt
          obtain ⟨c0, c1, c2, c3, c4, c5⟩ := hcl wr GW.out
          have kK := fun W hW => HK.out l[k].kids l[k].id kv W hW hkv (HFK.out k hlt)
          simp only [kids_ok HASC.out] at kK
          have hPK : ∃ PK, RowKit.Hid ((sortI l[k].kids = kidsOf l l[k].id) = PK) := ⟨_, rfl⟩
          obtain ⟨PK, HPK⟩ := hPK
          have HN : RowKit.Hid (¬ PK → ¬ PR) := by rw [← HPK.out]; exact fun h h2 => h ((HD.out.1 h2).2.2.2.1 k hlt)
          have HY : RowKit.Hid (PK → ∀ j (h : j < l.length), j < k + 1 → sortI l[j].kids = kidsOf l l[j].id) := by
            rw [← HPK.out]
            exact fun h j hj h2 => by
              by_cases e : j = k
              · subst e; exact h
              · exact M.out j hj (by omega)
          rw [HPK.out] at kK
          generalize l[k] = y at c0 c1 c2 c3 c4 c5 kK hkv
          obtain ⟨yi, yp, yl, yt, ym, yk⟩ := y
          dsimp only at c0 c1 c2 c3 c4 c5 kK hkv
          obtain ⟨Ak, ck, rfl, -, -, -⟩ := hkv.open_
          have KK := Lib.hid kK
          clear kK M hcell hcl hkv c1 c2 c3 c4
          go_wp2_with fail
          refine region_still_tail 14 (by kernel_rfl) (by kernel_rfl) ?_
          simp only [List.take_succ_cons, List.take_zero, List.drop_succ_cons, List.drop_zero]
          iterate 14 still_step
          refine wpStill_nil ?_
          go_wp2_with fail
          refine (KK.out _ GW.out.drew).mono ?_
          rintro e w1 ⟨q, rfl, hn, g1⟩
          have HG := Lib.hid (GW.out.drew.trans g1)
          have BG := Lib.hid (BW.out.drew.trans g1)
          have HNN := Lib.hid hn
          clear g1 KK t0 t1 c0 c5 hn
          dsimp only
          cases q
          · have Hn := Lib.hid (HN.out (fun h => by have := HNN.out.2 h; cases this))
            go_wp2
            go_ret2
            exact RetIff2.no _ 10 (by decide) Hn.out HG.out
          · have Hy := Lib.hid (HY.out (HNN.out.1 rfl))
            go_wp2
            go_roundg (l.length - (k + 1))
            case measure => omega
            case rel => exact ⟨k + 1, by omega, by omega, by go_num, (show Aside _ from BG.out), (show Aside _ from Hy.out)⟩
        have hltz : ¬ (k : Int) < (l.length : Int) := by omega
        have HALL3 : RowKit.Hid (∀ j (h : j < l.length), sortI l[j].kids = kidsOf l l[j].id) := fun j h => M.out j h (by omega)
        have kR := fun W hW => HK0.out 0 W hW
        simp only [kids_ok HASC.out] at kR
        have KR := Lib.hid kR
        clear M kR
        go_wp2_with fail
        refine (KR.out _ GW.out).mono ?_
        rintro e w1 ⟨q, rfl, hn, g1⟩
        have HG := Lib.hid (GW.out.trans g1)
        have BG := Lib.hid (BW.out.trans g1)
        have HNN := Lib.hid hn
        clear g1 KR t0 t1 hn
        dsimp only
        cases q
        · have Hn : RowKit.Hid (¬ PR) := fun h => by have := HNN.out.2 (HD.out.1 h).2.2.2.2.1; cases this
          go_wp2
          go_ret2
          exact RetIff2.no _ 10 (by decide) Hn.out HG.out
        have HRT := Lib.hid (HNN.out.1 rfl)
        go_wp2
        go_loopg [9] l.length (fun gg s wr => ∃ k : Nat, k ≤ l.length ∧ l.length - k ≤ gg ∧ s = .int .i64 k ∧ Aside (Grew (w.alloc (.cells [.slice B rs.length d, .slice A l.length c].toArray 25)) wr) ∧ Aside (∀ j (h : j < l.length), j < k → BrDeep l l[j]))
        case atStart => exact ⟨0, by omega, by omega, rfl, (show Aside _ from BG.out), (show Aside _ from fun j h h2 => absurd h2 (Nat.not_lt_zero _))⟩
        case round =>
          obtain ⟨k, hk, hgk, rfl, BW, M⟩ := hrel
          have GW := Lib.hid (((Grew.refl w).alloc _).trans BW.out)
          have t0 := new_cell BW.out 0 _ rfl
          have t1 := new_cell BW.out 1 _ rfl
          by_cases hlt : k < l.length
          · have hltz : (k : Int) < (l.length : Int) := by omega
            have h0z : (0 : Int) ≤ (k : Int) := by omega
            obtain ⟨b, off, rfl, hb, hcell⟩ := HR.out (by omega)
            obtain ⟨kv, hkv, hcl⟩ := hcell k hlt
            obtain ⟨c0, c1, c2, c3, c4, c5⟩ := hcl wr GW.out
            have hmem : l[k] ∈ l := List.getElem_mem hlt
            have kW := fun W hW => HW.out l[k] W hW hmem (fun c hc => find_byid HASC.out hc) (alone_pos HALL1.out) (placed_up HALL2.out)
            have hpd := (path_deep HASC.out (placed_up HALL2.out) hmem).1
            have hPK : ∃ PK, RowKit.Hid (BrDeep l l[k] = PK) := ⟨_, rfl⟩
            obtain ⟨PK, HPK⟩ := hPK
            have HN : RowKit.Hid (¬ PK → ¬ PR) := by rw [← HPK.out]; exact fun h h2 => h ((HD.out.1 h2).2.2.2.2.2 k hlt)
            have HY : RowKit.Hid (PK → ∀ j (h : j < l.length), j < k + 1 → BrDeep l l[j]) := by
              rw [← HPK.out]
              exact fun h j hj h2 => by
                by_cases e : j = k
                · subst e; exact h
                · exact M.out j hj (by omega)
            rw [HPK.out] at hpd
            generalize pathW l l[k] = PW at kW hpd
            generalize l[k] = y at c0 c1 c2 c3 c4 c5 kW hkv
            obtain ⟨yi, yp, yl, yt, ym, yk⟩ := y
            dsimp only at c0 c1 c2 c3 c4 c5 kW hkv
            have KW := Lib.hid kW
            have HPD := Lib.hid hpd
            clear kW M hcell hcl hkv c1 c2 c3 c4 c5 hpd hmem
            go_wp2_with fail
            refine region_still_tail 8 (by kernel_rfl) (by kernel_rfl) ?_
            simp only [List.take_succ_cons, List.take_zero, List.drop_succ_cons, List.drop_zero]
            iterate 8 still_step
            refine wpStill_nil ?_
            go_wp2_with fail
            refine (KW.out _ GW.out.drew).mono ?_
            rintro e w1 ⟨v1, rfl, s1, g1⟩
            have HG := Lib.hid (GW.out.drew.trans g1)
            have BG := Lib.hid (BW.out.drew.trans g1)
            obtain ⟨A1, c1, rfl, hl1, hc1, -⟩ := s1.open_
            unfold maxLen at hc1
            clear g1 KW t0 t1 c0 s1
            dsimp only
            by_cases h0 : PW.length = 0
            · have h0' : ((PW.length : Int) == 0) = true := by simpa using h0
              have Hn := Lib.hid (HN.out (fun h => (HPD.out.1 h).1 h0))
              clear h0
              go_wp2
              go_ret2
              exact RetIff2.no _ 17 (by decide) Hn.out HG.out
            have h0' : ((PW.length : Int) == 0) = false := by simpa using h0
            by_cases h12 : 12 < PW.length
            · have h12' : (12 : Int) < (PW.length : Int) := by omega
              have Hn := Lib.hid (HN.out (fun h => by have := (HPD.out.1 h).2; omega))
              clear h0
              go_wp2
              go_ret2
              exact RetIff2.no _ 15 (by decide) Hn.out HG.out
            have h12' : ¬ (12 : Int) < (PW.length : Int) := by omega
            have Hy := Lib.hid (HY.out (HPD.out.2 ⟨h0, by omega⟩))
            clear h0
            go_wp2
            go_roundg (l.length - (k + 1))
            case measure => omega
            case rel => exact ⟨k + 1, by omega, by omega, by go_num, (show Aside _ from BG.out), (show Aside _ from Hy.out)⟩
          have hltz : ¬ (k : Int) < (l.length : Int) := by omega
          have Hy := Lib.hid (HD.out.2 ⟨by omega, HALL1.out, HALL2.out, HALL3.out, HRT.out, fun j h => M.out j h (by omega)⟩)
          clear M t0
          go_wp2
          go_ret2
          exact RetIff2.yes _ Hy.out GW.out
theorem refRight19 (rs : List Int) (l : List Br) (rv bv : Value) (w : World) (hr : SlI w rv rs) (hv : SlBr w bv l) (hf : FewBr l) (hrl : rs.length ≤ 1000000) (hm : ∀ i (h : i < l.length), l[i].mark.size ≤ 9223372036854775807) :
    Calls Tryz.prog 82 #[.agg #[rv, bv]] w (RetB (RightT ⟨rs, l⟩) w) := by
  have K := Lib.hid (fun W (hW : Grew w W) => refCheck19 rs l rv bv W (hr.mono hW) (hv.mono hW) hf hrl hm)
  clear hr hv hf hrl hm
  go_enter Tryz.func82, Tryz.ntmps82
  go_wp2_with fail
  refine (K.out _ ((Grew.refl w).alloc _)).mono ?_
  rintro e w1 ⟨i, n, rfl, hn, g⟩
  have HN := Lib.hid hn
  have HG := Lib.hid (((Grew.refl w).alloc _).trans g)
  clear hn g
  dsimp only
  cases hz : (n == 0)
  · go_wp2
    go_ret
    exact ⟨false, rfl, ⟨(fun h => by cases h), (fun h => by rw [HN.out.2 h] at hz; cases hz)⟩, HG.out⟩
  · go_wp2
    go_ret
    exact ⟨true, rfl, ⟨fun _ => HN.out.1 (by simpa using hz), fun _ => rfl⟩, HG.out⟩
end Go.Proofs.YtmbpeniaefpljaaGreatDoor

/- The reference's Right and asked of layer 28, walked. The condition: the lists are short. -/
namespace Go.Proofs.YtmbpeniaefpljaaGreatDoor
open Go.RowKit

set_option maxHeartbeats 1000000 in
theorem refRightV (ls : List ByteArray) (vs : List Val) (lv vv : Value) (w : World) (hl : SlS w lv ls) (hvv : SlV w vv vs) : Calls Tryz.prog 83 #[lv, vv] w fun e w' => e = .returned (.bool ((checkF ls vs).2 == 0)) ∧ Grew w w' := by
  have K := Lib.hid (refCheck_any ls vs lv vv w hl hvv)
  clear hl hvv
  generalize checkF ls vs = C at K ⊢
  obtain ⟨c1, c2⟩ := C
  dsimp only at K ⊢
  go_enter Tryz.func83, Tryz.ntmps83
  go_wp2_with (go_at_call 118; refine K.out.mono ?_; rintro e w1 ⟨rfl, g1⟩)
  go_ret
  exact ⟨rfl, g1⟩
set_option maxHeartbeats 2000000 in
theorem refRightI (t : Tr) (ls : List ByteArray) (vs : List Val) (rv bv lv vv : Value) (w : World) (hr : SlI w rv t.roots) (hv : SlBr w bv t.brs) (hf : FewBr t.brs) (hrl : t.roots.length ≤ 1000000) (hm : ∀ i (h : i < t.brs.length), t.brs[i].mark.size ≤ 9223372036854775807) (hl : SlS w lv ls) (hvv : SlV w vv vs) :
    Calls Tryz.prog 56 #[.agg #[rv, bv], lv, vv] w fun e w' => e = .returned (.bool (ofI t ls vs == 0)) ∧ Grew w w' := by
  have KT := Lib.hid (fun W (hW : Grew w W) => refRight19 t.roots t.brs rv bv W (hr.mono hW) (hv.mono hW) hf hrl hm)
  have kV := fun W (hW : Grew w W) => refRightV ls vs lv vv W (hl.mono hW) (hvv.mono hW)
  have h1 : RightT t → (ofI t ls vs == 0) = ((checkF ls vs).2 == 0) := fun h => by
    unfold ofI
    by_cases hc : (checkF ls vs).2 = 0
    · rw [if_pos ⟨h, hc⟩, hc]
    · rw [if_neg (fun k => hc k.2)]
      have : ((checkF ls vs).2 == 0) = false := by simpa using hc
      rw [this]
      rfl
  have h2 : ¬ RightT t → (ofI t ls vs == 0) = false := fun h => by
    unfold ofI
    rw [if_neg (fun k => h k.1)]
    rfl
  generalize (ofI t ls vs == 0) = N at h1 h2 ⊢
  generalize ((checkF ls vs).2 == 0) = c at kV h1
  have H1 := Lib.hid h1
  have H2 := Lib.hid h2
  have KV := Lib.hid kV
  obtain ⟨Ar, cr, rfl, -⟩ := hr.open_
  obtain ⟨Ab, cb, rfl, -⟩ := hv.open_
  clear h1 h2 kV hr hv hf hrl hm hl hvv
  go_enter Tryz.func56, Tryz.ntmps56
  go_wp2_with fail
  refine (KT.out _ ((Grew.refl w).alloc _)).mono ?_
  rintro e w1 ⟨q, rfl, hq, g1⟩
  have HG := Lib.hid (((Grew.refl w).alloc _).trans g1)
  have HQ := Lib.hid hq
  clear g1 hq
  dsimp only
  cases q with
  | false =>
    obtain rfl := H2.out (fun h => by have := HQ.out.2 h; cases this)
    clear HQ H1 H2
    go_wp2_with fail
    go_ret
    exact ⟨rfl, HG.out⟩
  | true =>
    obtain rfl := H1.out (HQ.out.1 rfl)
    clear HQ H1 H2
    go_wp2_with fail
    refine (KV.out _ HG.out).mono ?_
    rintro e w2 ⟨rfl, g2⟩
    have HG2 := Lib.hid (HG.out.trans g2)
    clear g2
    dsimp only
    go_wp2
    go_ret
    exact ⟨rfl, HG2.out⟩
end Go.Proofs.YtmbpeniaefpljaaGreatDoor

/- The reference's asked of layer 28, walked. The condition: the lists are short. -/
namespace Go.Proofs.YtmbpeniaefpljaaGreatDoor
open Go.RowKit

theorem isElement_any (n : Int) (w : World) : Calls Tryz.prog 61 #[.int .i64 n] w fun e w' => e = .returned (.bool (isEl n)) ∧ w = w' := by
  cases h : isEl n with
  | true => exact isElement_t n w h
  | false => exact isElement_f n w h
set_option maxHeartbeats 4000000 in
theorem refAskedI (t : Tr) (ls : List ByteArray) (vs : List Val) (u n : Int) (lang : ByteArray) (rv bv lv vv : Value) (w : World) (hr : SlI w rv t.roots) (hv : SlBr w bv t.brs) (hf : FewBr t.brs) (hrl : t.roots.length ≤ 1000000) (hm : ∀ i (h : i < t.brs.length), t.brs[i].mark.size ≤ 9223372036854775807) (hl : SlS w lv ls) (hvv : SlV w vv vs) :
    Calls Tryz.prog 49 #[.agg #[rv, bv], lv, vv, .int .i64 u, .int .i64 n, .string lang] w fun e w' => e = .returned (.int .i64 (askI t ls vs u n lang)) ∧ Grew w w' := by
  have kR := fun W (hW : Grew w W) => refRightI t ls vs rv bv lv vv W (hr.mono hW) (hv.mono hW) hf hrl hm (hl.mono hW) (hvv.mono hW)
  have kF := fun W (hW : Grew w W) => refFind19 t.brs u rv bv W (hv.mono hW)
  unfold TFindEnd at kF
  have KE := Lib.hid (fun W => isElement_any n W)
  have KL := Lib.hid (fun W => isLanguage_any lang W)
  obtain ⟨Ar, cr, rfl, -⟩ := hr.open_
  obtain ⟨Ab, cb, rfl, -⟩ := hv.open_
  have HC := Lib.hid (fun W g => two_cells (heap_keepI (W' := W) g (heap_newI w (.cells [.slice Ar t.roots.length cr, .slice Ab t.brs.length cb].toArray 25))))
  clear hr hv hf hrl hm hl hvv
  have hof : ofI t ls vs = 0 ∨ ofI t ls vs = 1 := by
    unfold ofI
    split
    · exact .inl rfl
    · exact .inr rfl
  have hask : askI t ls vs u n lang = if ofI t ls vs = 0 then (if (brFind t.brs u).isSome = true then (if isEl n = true then (if isLangF lang.data.toList = true then 0 else 3) else 2) else 7) else 1 := by
    unfold askI hasI numI lanI
    rcases hof with h | h
    · rw [h]
      cases (brFind t.brs u).isSome <;> cases isEl n <;> cases isLangF lang.data.toList <;> rfl
    · rw [h]
      rfl
  rw [hask]
  have hb : (ofI t ls vs == 0) = decide (ofI t ls vs = 0) := by
    by_cases h : ofI t ls vs = 0
    · simp [h]
    · simp [h]
  rw [hb] at kR
  generalize hq : decide (ofI t ls vs = 0) = q at kR
  have KR := Lib.hid kR
  generalize hs : (brFind t.brs u).isSome = s at kF
  generalize (brFind t.brs u).getD br0 = f at kF
  have KF := Lib.hid kF
  generalize hel : isEl n = el at KE
  generalize hla : isLangF lang.data.toList = la at KL
  have GA := Lib.hid ((Grew.refl w).alloc (.cells [.slice Ar t.roots.length cr, .slice Ab t.brs.length cb].toArray 25))
  cases q with
  | false =>
    rw [if_neg (of_decide_eq_false hq)]
    clear hask hb hq hs hel hla hof kR kF KF KE KL
    go_enter Tryz.func49, Tryz.ntmps49
    go_wp2_with fail
    refine (KR.out _ GA.out).mono ?_
    rintro e w1 ⟨rfl, g1⟩
    have HG := Lib.hid (GA.out.trans g1)
    clear g1
    dsimp only
    go_wp2
    go_ret
    exact ⟨rfl, HG.out⟩
  | true =>
    rw [if_pos (of_decide_eq_true hq)]
    clear hask hb hq hof kR kF
    cases s with
    | false =>
      rw [if_neg (by decide)]
      clear hs hel hla KE KL
      go_enter Tryz.func49, Tryz.ntmps49
      go_wp2_with fail
      refine (KR.out _ GA.out).mono ?_
      rintro e w1 ⟨rfl, g1⟩
      have HG := Lib.hid (GA.out.trans g1)
      obtain ⟨x0, x1⟩ := HC.out w1 g1
      clear g1
      dsimp only
      go_wp2_with fail
      refine (KF.out _ HG.out).mono ?_
      rintro e w2 ⟨rfl, g2⟩
      have HG2 := Lib.hid (HG.out.trans g2)
      clear g2
      dsimp only
      go_wp2
      go_ret
      exact ⟨rfl, HG2.out.alloc _⟩
    | true =>
      rw [if_pos rfl]
      clear hs
      cases el with
      | false =>
        rw [if_neg (by decide)]
        clear hel hla KL
        go_enter Tryz.func49, Tryz.ntmps49
        go_wp2_with fail
        refine (KR.out _ GA.out).mono ?_
        rintro e w1 ⟨rfl, g1⟩
        have HG := Lib.hid (GA.out.trans g1)
        obtain ⟨x0, x1⟩ := HC.out w1 g1
        clear g1
        dsimp only
        go_wp2_with fail
        refine (KF.out _ HG.out).mono ?_
        rintro e w2 ⟨rfl, g2⟩
        have HG2 := Lib.hid (HG.out.trans g2)
        clear g2 x0 x1
        dsimp only
        go_wp2_with (go_at_call 61; refine (KE.out _).mono ?_; rintro e w3 ⟨rfl, rfl⟩)
        go_ret
        exact ⟨rfl, HG2.out.alloc _⟩
      | true =>
        rw [if_pos rfl]
        clear hel
        clear hla
        cases la with
        | false =>
          rw [if_neg (by decide)]
          go_enter Tryz.func49, Tryz.ntmps49
          go_wp2_with fail
          refine (KR.out _ GA.out).mono ?_
          rintro e w1 ⟨rfl, g1⟩
          have HG := Lib.hid (GA.out.trans g1)
          obtain ⟨x0, x1⟩ := HC.out w1 g1
          clear g1
          dsimp only
          go_wp2_with fail
          refine (KF.out _ HG.out).mono ?_
          rintro e w2 ⟨rfl, g2⟩
          have HG2 := Lib.hid (HG.out.trans g2)
          clear g2 x0 x1
          dsimp only
          go_wp2_with (first | (go_at_call 61; refine (KE.out _).mono ?_; rintro e w3 ⟨rfl, rfl⟩) | (go_at_call 77; refine (KL.out _).mono ?_; rintro e w4 ⟨rfl, rfl⟩))
          go_ret
          exact ⟨rfl, HG2.out.alloc _⟩
        | true =>
          rw [if_pos rfl]
          go_enter Tryz.func49, Tryz.ntmps49
          go_wp2_with fail
          refine (KR.out _ GA.out).mono ?_
          rintro e w1 ⟨rfl, g1⟩
          have HG := Lib.hid (GA.out.trans g1)
          obtain ⟨x0, x1⟩ := HC.out w1 g1
          clear g1
          dsimp only
          go_wp2_with fail
          refine (KF.out _ HG.out).mono ?_
          rintro e w2 ⟨rfl, g2⟩
          have HG2 := Lib.hid (HG.out.trans g2)
          clear g2 x0 x1
          dsimp only
          go_wp2_with (first | (go_at_call 61; refine (KE.out _).mono ?_; rintro e w3 ⟨rfl, rfl⟩) | (go_at_call 77; refine (KL.out _).mono ?_; rintro e w4 ⟨rfl, rfl⟩))
          go_ret
          exact ⟨rfl, HG2.out.alloc _⟩
end Go.Proofs.YtmbpeniaefpljaaGreatDoor

/- The reference's Found of layer 28, walked. The condition: the lists are short. -/
namespace Go.Proofs.YtmbpeniaefpljaaGreatDoor
open Go.RowKit

/-- A call that returns a value, whether there is one, and an error. -/
def RetVE (o : Option Val × Int) (w : World) (e : Ending) (w' : World) : Prop := e = .returned (.tuple #[(o.1.getD val0).agg, .bool o.1.isSome, .int .i64 o.2]) ∧ Grew w w'
set_option maxHeartbeats 4000000 in
set_option maxRecDepth 100000 in
theorem refFoundX (t : Tr) (ls : List ByteArray) (vs : List Val) (u n : Int) (lang : ByteArray) (rv bv lv vv : Value) (w : World) (hr : SlI w rv t.roots) (hv : SlBr w bv t.brs) (hf : FewBr t.brs) (hrl : t.roots.length ≤ 1000000) (hm : ∀ i (h : i < t.brs.length), t.brs[i].mark.size ≤ 9223372036854775807) (hl : SlS w lv ls) (hvv : SlV w vv vs) :
    Calls Tryz.prog 15 #[.agg #[rv, bv], lv, vv, .int .i64 u, .int .i64 n, .string lang] w (RetVE (foundR t ls vs u n lang) w) := by
  have kA := fun W (hW : Grew w W) => refAskedI t ls vs u n lang rv bv lv vv W (hr.mono hW) (hv.mono hW) hf hrl hm (hl.mono hW) (hvv.mono hW)
  have KF := Lib.hid (fun (h : askI t ls vs u n lang = 0) W (hW : Grew w W) => refFound t vs u n lang rv bv vv W (askI_zero.1 h).1.1 (hr.mono hW) (hv.mono hW) (hvv.mono hW) (.inr (askI_zero.1 h).2.1))
  unfold foundR
  generalize hN : askI t ls vs u n lang = N at kA KF ⊢
  generalize foundF t.brs vs u n lang = o at KF ⊢
  have KA := Lib.hid kA
  obtain ⟨Ar, cr, rfl, -⟩ := hr.open_
  obtain ⟨Ab, cb, rfl, -⟩ := hv.open_
  clear kA hr hv hf hrl hm hl hvv hN
  have HB := Lib.hid (show ∀ W, Grew ((w.alloc (.cells [.slice Ar t.roots.length cr, .slice Ab t.brs.length cb].toArray 25)).alloc (.cells [.int .i64 0, .int .i64 0, .string ⟨#[]⟩, .string ⟨#[]⟩].toArray 31)) W → W.heap[w.heap.size]? = some (.cells #[.slice Ar t.roots.length cr, .slice Ab t.brs.length cb] 25 (0, 0)) ∧ W.heap[w.heap.size + 1]? = some (.cells #[.int .i64 0, .int .i64 0, .string ⟨#[]⟩, .string ⟨#[]⟩] 31 (0, 0)) from fun W g => by
    have e1 := heap_newI w (.cells [.slice Ar t.roots.length cr, .slice Ab t.brs.length cb].toArray 25)
    have e2 := heap_newI (w.alloc (.cells [.slice Ar t.roots.length cr, .slice Ab t.brs.length cb].toArray 25)) (.cells [.int .i64 0, .int .i64 0, .string ⟨#[]⟩, .string ⟨#[]⟩].toArray 31)
    rw [World.size_alloc] at e2
    exact ⟨heap_keepI (((Grew.refl _).alloc _).trans g) e1, heap_keepI g e2⟩)
  have GA := Lib.hid (((Grew.refl w).alloc (.cells [.slice Ar t.roots.length cr, .slice Ab t.brs.length cb].toArray 25)).alloc (.cells [.int .i64 0, .int .i64 0, .string ⟨#[]⟩, .string ⟨#[]⟩].toArray 31))
  by_cases hz : N = 0
  · subst hz
    rw [if_pos rfl]
    have kf := KF.out rfl
    unfold RetV at kf
    unfold RetVE
    generalize o.isSome = s at kf ⊢
    generalize o.getD val0 = x at kf ⊢
    obtain ⟨xu, xe, xl, xt⟩ := x
    unfold Val.agg at kf ⊢
    dsimp only at kf ⊢
    have KFX := Lib.hid kf
    clear kf KF
    go_enter Tryz.func15, Tryz.ntmps15
    go_wp2_with fail
    generalize (w.alloc (.cells [.slice Ar t.roots.length cr, .slice Ab t.brs.length cb].toArray 25)).alloc (.cells [.int .i64 0, .int .i64 0, .string ⟨#[]⟩, .string ⟨#[]⟩].toArray 31) = WA at GA HB ⊢
    refine (KA.out _ GA.out).mono ?_
    rintro e w1 ⟨rfl, g1⟩
    have G1 := Lib.hid g1
    have HG1 := Lib.hid (GA.out.trans G1.out)
    clear g1 KA
    obtain ⟨x0, x1⟩ := two_cells (HB.out w1 G1.out).1
    obtain ⟨⟨q0, q1, q2, q3⟩, z0, z1, z2, z3⟩ := four_cells (HB.out w1 G1.out).2
    dsimp only
    go_wp2_with fail
    refine (KFX.out _ HG1.out).mono ?_
    rintro e w2 ⟨rfl, g2⟩
    have G2 := Lib.hid (G1.out.trans (g2.alloc (.cells #[.int .i64 xu, .int .i64 xe, .string xl, .string xt] 31)))
    have HG2 := Lib.hid (GA.out.trans G2.out)
    clear x0 x1 q0 q1 q2 q3 z0 z1 z2 z3 g2
    obtain ⟨⟨q0, q1, q2, q3⟩, z0, z1, z2, z3⟩ := four_cells (HB.out _ G2.out).2
    dsimp only
    go_wp2_with fail
    obtain ⟨p0, p1, p2, p3⟩ := res_four (v0 := .int .i64 xu) (v1 := .int .i64 xe) (v2 := .string xl) (v3 := .string xt) q0 q1 q2 q3
    refine bodyPost_ret (v := .tuple #[.agg #[.int .i64 xu, .int .i64 xe, .string xl, .string xt], .bool s, .int .i64 0]) (by simp [results, Tryz.results15, go_sem, p0, p1, p2, p3]) rfl ?_
    exact ⟨rfl, grew_four HG2.out (by omega) _ _ _ _⟩
  · rw [if_neg hz]
    have hb : (N != 0) = true := by simpa using hz
    clear KF hz
    unfold RetVE
    go_enter Tryz.func15, Tryz.ntmps15
    go_wp2_with fail
    generalize (w.alloc (.cells [.slice Ar t.roots.length cr, .slice Ab t.brs.length cb].toArray 25)).alloc (.cells [.int .i64 0, .int .i64 0, .string ⟨#[]⟩, .string ⟨#[]⟩].toArray 31) = WA at GA HB ⊢
    refine (KA.out _ GA.out).mono ?_
    rintro e w1 ⟨rfl, g1⟩
    have G1 := Lib.hid g1
    have HG1 := Lib.hid (GA.out.trans G1.out)
    clear g1 KA
    obtain ⟨x0, x1⟩ := two_cells (HB.out w1 G1.out).1
    obtain ⟨⟨q0, q1, q2, q3⟩, z0, z1, z2, z3⟩ := four_cells (HB.out w1 G1.out).2
    dsimp only
    go_wp2_with fail
    obtain ⟨p0, p1, p2, p3⟩ := res_four (v0 := .int .i64 0) (v1 := .int .i64 0) (v2 := .string ⟨#[]⟩) (v3 := .string ⟨#[]⟩) q0 q1 q2 q3
    refine bodyPost_ret (v := .tuple #[.agg #[.int .i64 0, .int .i64 0, .string ⟨#[]⟩, .string ⟨#[]⟩], .bool false, .int .i64 N]) (by simp [results, Tryz.results15, go_sem, p0, p1, p2, p3]) rfl ?_
    exact ⟨rfl, grew_four HG1.out (by omega) _ _ _ _⟩
end Go.Proofs.YtmbpeniaefpljaaGreatDoor

/- tree.known on any tree, orTop, kids, Kids, walked. The conditions: the library's own variables hold what they must; the lists are short. -/
namespace Go.Proofs.YtmbpeniaefpljaaGreatDoor
open Go.RowKit

set_option maxHeartbeats 2000000 in
theorem tKnownNo (rs : List Int) (l : List Br) (rv bv kv : Value) (w : World) (hE : Env w) (hr : SlI w rv rs) (hv : SlBr w bv l) (hf : FewBr l) (hrl : rs.length ≤ 1000000) (hT : ¬ RightT ⟨rs, l⟩) :
    Calls Tryz.prog 67 #[.agg #[rv, bv], kv] w fun e w' => e = .returned (.int .i64 1) ∧ Grew w w' := by
  have KR := Lib.hid (fun W (hW : Grew w W) => tRight rs l rv bv W (hE.mono hW) (hr.mono hW) (hv.mono hW) hf hrl)
  have HT := Lib.hid hT
  clear hE hr hv hf hrl hT
  go_enter Tryz.func67, Tryz.ntmps67
  go_wp2_with fail
  refine (KR.out _ ((Grew.refl w).alloc _)).mono ?_
  rintro e w1 ⟨bb, rfl, hbb, g1⟩
  obtain rfl : bb = false := by
    cases bb
    · rfl
    · exact absurd (hbb.1 rfl) HT.out
  have HG1 := Lib.hid g1
  clear hbb g1
  dsimp only
  go_wp2
  go_ret
  exact ⟨rfl, ((Grew.refl w).alloc _).trans HG1.out⟩
/-- The error of a tree and a unit, or 0 for the top. -/
def topR (l : List Br) (id : Int) : Int := if id = 0 then 0 else knownF l [id]
set_option maxHeartbeats 2000000 in
theorem tOrTop (rs : List Int) (l : List Br) (id : Int) (rv bv : Value) (w : World) (hE : Env w) (hr : SlI w rv rs) (hv : SlBr w bv l) (hf : FewBr l) (hrl : rs.length ≤ 1000000) (n : Int) (hn : (¬ RightT ⟨rs, l⟩ → n = 1) ∧ (RightT ⟨rs, l⟩ → n = topR l id)) :
    Calls Tryz.prog 115 #[.agg #[rv, bv], .int .i64 id] w fun e w' => e = .returned (.int .i64 n) ∧ Grew w w' := by
  have hfr : ∀ W : World, SlI (W.alloc (.cells #[.int .i64 id] 3)) (.slice (some ⟨W.heap.size, 0, none⟩) 1 1) [id] := fun W => Rd.fresh W _ 1 1 [.int .i64 id] rfl (by decide)
  have hK : ∀ W kv ids, Grew w W → SlI W kv ids → (ids = [] ∧ id = 0 ∨ ids = [id] ∧ id ≠ 0) → Calls Tryz.prog 67 #[.agg #[rv, bv], kv] W fun e w' => e = .returned (.int .i64 n) ∧ Grew W w' := by
    intro W kv ids hW hk hi
    by_cases hT : RightT ⟨rs, l⟩
    · have h1 := tKnown rs l ids rv bv kv W (hE.mono hW) (hr.mono hW) (hv.mono hW) hk hf hrl hT
      have h2 : knownF l ids = n := by
        rw [hn.2 hT]
        unfold topR
        rcases hi with ⟨rfl, h⟩ | ⟨rfl, h⟩
        · rw [if_pos h]
          rfl
        · rw [if_neg h]
      rw [h2] at h1
      exact h1
    · have h1 := tKnownNo rs l rv bv kv W (hE.mono hW) (hr.mono hW) (hv.mono hW) hf hrl hT
      rw [hn.1 hT]
      exact h1
  have KK := Lib.hid hK
  have HFR := Lib.hid hfr
  clear hE hr hv hf hrl hK hfr hn
  by_cases h0 : id = 0
  · subst h0
    go_enter Tryz.func115, Tryz.ntmps115
    go_wp2_with fail
    refine (KK.out _ _ [] ((Grew.refl w).alloc _) (SlI.nil _) (.inl (by simp))).mono ?_
    rintro e w1 ⟨rfl, g1⟩
    dsimp only
    go_wp2
    go_ret
    exact ⟨rfl, ((Grew.refl w).alloc _).trans g1⟩
  · have h0' : (id == 0) = false := by simpa using h0
    have H0 := Lib.hid h0
    clear h0
    go_enter Tryz.func115, Tryz.ntmps115
    go_wp2_with fail
    refine (KK.out _ _ [id] (((Grew.refl w).alloc _).alloc _) (by have := HFR.out (w.alloc (.cells #[rv, bv] 25)); simpa using this) (.inr ⟨rfl, H0.out⟩)).mono ?_
    rintro e w1 ⟨rfl, g1⟩
    dsimp only
    go_wp2
    go_ret
    exact ⟨rfl, (((Grew.refl w).alloc _).alloc _).trans g1⟩
/-- The children of a unit of a right tree: the list itself, not a copy. -/
theorem tKids0 (rs : List Int) (l : List Br) (id : Int) (rv bv : Value) (w0 w : World) (hr : SlI w0 rv rs) (hv : SlBr w0 bv l) (hg : Grew w0 w) (hf : l.length ≤ 1000000) (hT : RightT ⟨rs, l⟩) (hid : id = 0 ∨ ∃ b, brFind l id = some b) :
    Calls Tryz.prog 145 #[.agg #[rv, bv], .int .i64 id] w fun e w' => ∃ v, e = .returned v ∧ SlI w0 v (childs ⟨rs, l⟩ id) ∧ Grew w w' := by
  unfold childs
  by_cases h0 : id = 0
  · subst h0
    rw [if_pos rfl]
    have HR := Lib.hid hr
    obtain ⟨B, d, rfl, -, -, -⟩ := hr.open_
    clear hr hv hg hid
    go_enter Tryz.func145, Tryz.ntmps145
    go_wp2
    go_ret
    exact ⟨_, rfl, HR.out, (Grew.refl w).alloc _⟩
  · obtain ⟨b, hb⟩ := hid.resolve_left h0
    rw [if_neg h0]
    obtain ⟨k, hk, _, e⟩ := brIdx_some hb
    have hidk : l[k].id = id := by
      rw [e]
      exact (find_in hb).2
    obtain ⟨h1, h2⟩ := at_some hT.2.1 id k hk hidk
    have kA := fun W (hW : Grew w W) => tAt l id rv bv W (hv.mono (hg.trans hW)) hf (cmpId_mono hT.2.1 id)
    rw [h1, h2] at kA
    have KA := Lib.hid kA
    obtain ⟨A, c, rfl, hlc, hc, hrr⟩ := hv.open_
    unfold maxLen at hc
    obtain ⟨bb, off, rfl, hbk, hcell⟩ := hrr (by omega)
    obtain ⟨kv, hkv, hcl⟩ := hcell k hk
    have HKV : RowKit.Hid (SlI w0 kv (match brFind l id with | none => [] | some b => b.kids)) := by
      rw [hb]
      rw [e] at hkv
      exact hkv
    show Calls Tryz.prog 145 #[.agg #[rv, .slice (some ⟨bb, off, none⟩) l.length c], .int .i64 id] w fun e w' => ∃ v, e = .returned v ∧ SlI w0 v (match brFind l id with | none => [] | some b => b.kids) ∧ Grew w w'
    generalize (match brFind l id with | none => [] | some b => b.kids) = K at HKV ⊢
    have hcl5 : ∀ W, Grew w0 W → W.cell? ⟨bb, off + k * 6 + 5, none⟩ = some kv := fun W hW => (hcl W hW).2.2.2.2.2
    have HC := Lib.hid hcl5
    have HG := Lib.hid hg
    have h0' : (id == 0) = false := by simpa using h0
    have hkz : (k : Int) < (l.length : Int) := by omega
    have h0z : (0 : Int) ≤ (k : Int) := by omega
    obtain ⟨Az, cz, rfl, -, -, -⟩ := hkv.open_
    clear hr hv hg hid hb e h1 h2 kA hrr hcell hcl hcl5 hkv hT h0 hidk
    go_enter Tryz.func145, Tryz.ntmps145
    go_wp2_with fail
    refine (KA.out _ ((Grew.refl w).alloc _)).mono ?_
    rintro e w1 ⟨rfl, g1⟩
    have b0 := new_cell g1 0 _ rfl
    have b1 := new_cell g1 1 _ rfl
    have HG1 := Lib.hid (((Grew.refl w).alloc _).trans g1)
    have c5 := HC.out w1 (HG.out.trans HG1.out)
    clear g1
    dsimp only
    go_wp2
    go_ret
    exact ⟨_, rfl, HKV.out, HG1.out⟩
theorem top_found {l : List Br} {id : Int} (h : topR l id = 0) : id = 0 ∨ ∃ b, brFind l id = some b := by
  unfold topR at h
  by_cases h0 : id = 0
  · exact .inl h0
  · rw [if_neg h0] at h
    unfold knownF at h
    cases hb : brFind l id with
    | none => simp [hb] at h
    | some b => exact .inr ⟨b, rfl⟩
def RetIs (r : List Int × Int) (w : World) (e : Ending) (w' : World) : Prop := ∃ v, e = .returned (.tuple #[v, .int .i64 r.2]) ∧ SlI w' v r.1 ∧ Grew w w'
end Go.Proofs.YtmbpeniaefpljaaGreatDoor

/- tree.walk: what its recursive closure does, by induction on how far down the tree goes. The conditions: the tree is right; the rounds write one box and the row behind it alone. -/
namespace Go.Proofs.YtmbpeniaefpljaaGreatDoor
open Go.RowKit Go.Shelf

attribute [local go_sem] Oper.semAt_some

theorem room_free {F : Fence} (hd : F.depth = none) (k : Nat) : F.room k := fun d h => by rw [hd] at h; cases h
theorem roundFree {F : Fence} (hd : F.depth = none) {m m' : Nat} {P : Program} {l : Nat} {f : FuncId} {tmps : Array Value} {assign body : Code} {w : World} {R : Ending → World → Prop}
    (h : RoundIn F m P l f tmps assign body w R) : RoundIn F m' P l f tmps assign body w R := ⟨h.1, fun c cs _ => h.2 c cs (room_free hd _)⟩
theorem yieldFree {F : Fence} (hd : F.depth = none) {m : Nat} (m' : Nat) {P : Program} {l : Nat} {args : Array Value} {W : World} {R : Ending → World → Prop} (h : YieldAt F m P l args W R) : YieldAt F m' P l args W R := by
  obtain ⟨fn, tmps, assign, body, hy, hR⟩ := h
  exact ⟨fn, tmps, assign, body, hy, roundFree hd hR⟩

/-- All blocks of cells stay but block B and the row to which it leads. -/
structure KpO (B : Nat) (W W' : World) : Prop where
  size : W.heap.size ≤ W'.heap.size
  block : ∀ k o, W.heap[k]? = some o → o.isCells = true → k ≠ B → (∀ v, W.cell? ⟨B, 0, none⟩ = some v → v.ownBlock ≠ some k) → W'.heap[k]? = some o
  row : ∀ v', W'.cell? ⟨B, 0, none⟩ = some v' → (∃ v, W.cell? ⟨B, 0, none⟩ = some v ∧ v.ownBlock = v'.ownBlock) ∨ ∀ b, v'.ownBlock = some b → W.heap.size ≤ b ∧ b < W'.heap.size
/-- Block B is there, and what it leads to is there. -/
def OutIn (B : Nat) (W : World) : Prop := B < W.heap.size ∧ ∀ v, W.cell? ⟨B, 0, none⟩ = some v → ∀ b, v.ownBlock = some b → b < W.heap.size
/-- Block k holds o, and is neither block B nor the row to which B leads. -/
def Prot (B : Nat) (W : World) (k : Nat) (o : Obj) : Prop := W.heap[k]? = some o ∧ o.isCells = true ∧ k ≠ B ∧ ∀ v, W.cell? ⟨B, 0, none⟩ = some v → v.ownBlock ≠ some k
def KpB (n₀ B : Nat) (W W' : World) : Prop := Below n₀ W W' ∧ KpO B W W'
section
variable {n₀ B k : Nat} {W W' W2 : World} {o : Obj}
theorem KpO.refl (B : Nat) (W : World) : KpO B W W := ⟨Nat.le_refl _, fun _ _ h _ _ _ => h, fun v' h => .inl ⟨v', h, rfl⟩⟩
theorem KpO.trans (h : KpO B W W') (j : KpO B W' W2) : KpO B W W2 := by
  refine ⟨Nat.le_trans h.size j.size, fun k o ho hc hne hr => ?_, fun v' hv' => ?_⟩
  · refine j.block k o (h.block k o ho hc hne hr) hc hne fun v' hv' hb => ?_
    have hk := (Array.getElem?_eq_some_iff.1 ho).1
    rcases h.row v' hv' with ⟨v, hv, e⟩ | h2
    · exact hr v hv (by rw [e]; exact hb)
    · have := (h2 k hb).1
      omega
  · rcases j.row v' hv' with ⟨v, hv, e⟩ | h2
    · rcases h.row v hv with ⟨u, hu, e2⟩ | h3
      · exact .inl ⟨u, hu, e2.trans e⟩
      · refine .inr fun b hb => ?_
        have h4 := h3 b (by rw [e]; exact hb)
        have := j.size
        omega
    · refine .inr fun b hb => ?_
      have h4 := h2 b hb
      have := h.size
      omega
theorem KpO.grew (hB : B < W.heap.size) (h : Grew W W') : KpO B W W' :=
  ⟨h.size, fun k o ho _ _ _ => by rw [h.block k (Array.getElem?_eq_some_iff.1 ho).1]; exact ho, fun v' hv' => .inl ⟨v', by rw [← h.cell hB]; exact hv', rfl⟩⟩
theorem OutIn.kp (h : OutIn B W) (j : KpO B W W') : OutIn B W' := by
  refine ⟨Nat.lt_of_lt_of_le h.1 j.size, fun v' hv' b hb => ?_⟩
  rcases j.row v' hv' with ⟨v, hv, e⟩ | h2
  · exact Nat.lt_of_lt_of_le (h.2 v hv b (by rw [e]; exact hb)) j.size
  · exact (h2 b hb).2
theorem Prot.kp (h : Prot B W k o) (j : KpO B W W') : Prot B W' k o := by
  obtain ⟨h1, h2, h3, h4⟩ := h
  refine ⟨j.block k o h1 h2 h3 h4, h2, h3, fun v' hv' hb => ?_⟩
  have hk := (Array.getElem?_eq_some_iff.1 h1).1
  rcases j.row v' hv' with ⟨v, hv, e⟩ | h5
  · exact h4 v hv (by rw [e]; exact hb)
  · have := (h5 k hb).1
    omega
theorem Prot.new (h : OutIn B W) (hc : o.isCells = true) : Prot B (W.alloc o) W.heap.size o := by
  refine ⟨World.alloc_heap_new W o, hc, by have := h.1; omega, fun v hv hb => ?_⟩
  have hv2 : W.cell? ⟨B, 0, none⟩ = some v := by rw [← hv]; exact (World.cell?_alloc_lt _ _ _ h.1).symm
  have := h.2 v hv2 _ hb
  omega
theorem Prot.cell {vs : Array Value} {t : TypeId} (h : Prot B W k (.cells vs t (0, 0))) (j : Nat) (v : Value) (hj : vs[j]? = some v) : W.cell? ⟨k, j, none⟩ = some v := by
  simp [World.cell?, h.1, hj]
theorem KpB.refl (n₀ B : Nat) (W : World) : KpB n₀ B W W := ⟨Below.refl _ _, KpO.refl _ _⟩
theorem KpB.trans (h : KpB n₀ B W W') (j : KpB n₀ B W' W2) : KpB n₀ B W W2 := ⟨h.1.trans j.1, h.2.trans j.2⟩
theorem KpB.grew (hB : B < W.heap.size) (hn : n₀ ≤ W.heap.size) (h : Grew W W') : KpB n₀ B W W' := ⟨h.below.mono hn, KpO.grew hB h⟩
theorem kpB_put {w : World} (hn : n₀ ≤ w.heap.size) (hB : B < w.heap.size) (W : World) (l : Nat) (o o' : Obj) (hl : w.heap.size ≤ l) (h : W.heap[l]? = some o) (hc : o.isCells = false) (hw : o.isWalk = false) : KpB n₀ B W (W.putObj l o') := by
  have hg := grownBy_putObj' W l o'
  refine ⟨belowK_b hn W l o o' hl h hc hw, hg.size, fun k o2 ho hc2 _ _ => ?_, fun v' hv' => .inl ⟨v', ?_, rfl⟩⟩
  · rw [hg.block k (Array.getElem?_eq_some_iff.1 ho).1 (fun e => ?_)]
    · exact ho
    · injection e with e
      subst e
      rw [h] at ho
      injection ho with ho
      rw [← ho, hc] at hc2
      cases hc2
  · have hBW : B < W.heap.size := by have := (Array.getElem?_eq_some_iff.1 h).1; omega
    rw [← hv']
    exact (World.cell?_of_block (hg.block B hBW (fun e => by injection e with e; omega))).symm
end
/-- slices.IndexFunc at numbers, the function that is handed over doing whatever it does: R i holds behind i rounds; St holds where it has said yes. -/
theorem idxEff (l : List Int) (g : Nat) (lb : Array Value) (eg : ∀ args w, (callFunc g args).run Tryz.prog w = .ok (.enter g args) w) (v : Value) (w0 w : World) (hv : SlI w0 v l) (R : Nat → World → Prop) (St : World → Prop) (hR0 : R 0 w) (hRg : ∀ i W, R i W → Grew w0 W)
    (hp : ∀ i (hi : i < l.length) W, R i W → Calls Tryz.prog g (#[(.int .i64 l[i])] ++ lb) W fun e w' => (e = .returned (.bool false) ∧ R (i + 1) w') ∨ (e = .returned (.bool true) ∧ St w')) :
    Calls Tryz.prog 66 #[v, .func (.func g) #[] lb] w fun e w' => (e = .returned (.int .i64 (-1)) ∧ R l.length w') ∨ (∃ i : Nat, e = .returned (.int .i64 (i : Int)) ∧ St w') := by
  obtain ⟨A, c, rfl, hlc, hc, hr⟩ := hv.open_
  unfold maxLen at hc
  have HR := Lib.hid hr
  have HP := Lib.hid hp
  have HG := Lib.hid hRg
  have HR0 := Lib.hid hR0
  clear hr hp hv hRg hR0
  go_enter Tryz.func66, Tryz.ntmps66
  go_wp2
  go_loopg [5, 8] l.length (fun gg _ s8 wr => ∃ kk : Nat, kk ≤ l.length ∧ l.length - kk ≤ gg ∧ s8 = .int .i64 kk ∧ Aside (R kk wr))
  case atStart => exact ⟨0, Nat.zero_le _, by omega, rfl, HR0.out⟩
  case round =>
    obtain ⟨kk, hkk, hg, rfl, BW⟩ := hrel
    by_cases hlt : kk < l.length
    · obtain ⟨b, off, rfl, hb, hcell⟩ := HR.out (by omega)
      obtain c0 := hcell wr (HG.out kk wr BW.out) kk hlt
      have hcall := HP.out kk hlt wr BW.out
      have hltz : (kk : Int) < (l.length : Int) := by omega
      clear hcell
      generalize l[kk] = y at c0 hcall
      go_wp2_with (go_at_fn g; refine hcall.mono ?_; rintro e w' (⟨rfl, hb'⟩ | ⟨rfl, hb'⟩))
      · go_roundg (l.length - (kk + 1))
        case measure => omega
        case rel => exact ⟨kk + 1, by omega, by omega, by go_num, (show Aside _ from hb')⟩
      · go_ret
        exact .inr ⟨kk, rfl, hb'⟩
    · have hltz : ¬ (kk : Int) < (l.length : Int) := by omega
      obtain rfl : kk = l.length := by omega
      go_wp2
      go_ret
      exact .inl ⟨rfl, BW.out⟩
theorem containsEff (l : List Int) (g : Nat) (lb : Array Value) (eg : ∀ args w, (callFunc g args).run Tryz.prog w = .ok (.enter g args) w) (v : Value) (w0 w : World) (hv : SlI w0 v l) (R : Nat → World → Prop) (St : World → Prop) (hR0 : R 0 w) (hRg : ∀ i W, R i W → Grew w0 W)
    (hp : ∀ i (hi : i < l.length) W, R i W → Calls Tryz.prog g (#[(.int .i64 l[i])] ++ lb) W fun e w' => (e = .returned (.bool false) ∧ R (i + 1) w') ∨ (e = .returned (.bool true) ∧ St w')) :
    Calls Tryz.prog 32 #[v, .func (.func g) #[] lb] w fun e w' => (e = .returned (.bool false) ∧ R l.length w') ∨ (e = .returned (.bool true) ∧ St w') := by
  have K := Lib.hid (idxEff l g lb eg v w0 w hv R St hR0 hRg hp)
  clear hv hR0 hRg hp
  go_enter Tryz.func32, Tryz.ntmps32
  go_wp2_with fail
  refine K.out.mono ?_
  rintro e w1 (⟨rfl, h⟩ | ⟨i, rfl, h⟩)
  · dsimp only
    go_wp2
    go_ret
    exact .inl ⟨rfl, h⟩
  · have h0 : (0 : Int) ≤ (i : Int) := by omega
    dsimp only
    go_wp2
    go_ret
    exact .inr ⟨rfl, h⟩
end Go.Proofs.YtmbpeniaefpljaaGreatDoor

/- tree.walk's recursive closure: it hands on a unit and all that are below it. The conditions: the tree is right; the rounds write one box and the row behind it alone. -/
namespace Go.Proofs.YtmbpeniaefpljaaGreatDoor
open Go.RowKit Go.Shelf

attribute [local go_sem] Oper.semAt_some

/-- The boxes that the closure reads. -/
structure Boxes (B lp Yb Tb Vb : Nat) (rv bv : Value) (W : World) : Prop where
  y : ∃ t, Prot B W Yb (.cells #[.func (.yield lp) #[] #[]] t (0, 0))
  t : ∃ t, Prot B W Tb (.cells #[rv, bv] t (0, 0))
  v : ∃ t, Prot B W Vb (.cells #[.func (.func 144) #[] #[.pointer (some ⟨Yb, 0, none⟩), .pointer (some ⟨Tb, 0, none⟩), .pointer (some ⟨Vb, 0, none⟩)]] t (0, 0))
theorem Boxes.kp {B lp Yb Tb Vb : Nat} {rv bv : Value} {W W' : World} (h : Boxes B lp Yb Tb Vb rv bv W) (j : KpO B W W') : Boxes B lp Yb Tb Vb rv bv W' :=
  ⟨h.y.imp fun _ p => p.kp j, h.t.imp fun _ p => p.kp j, h.v.imp fun _ p => p.kp j⟩
/-- How the closure ends: all of L has come, or a part of it. -/
def VisEnd (J Jx : List (Int × Int) → World → Prop) (n₀ B : Nat) (L : List Int) (pre : List (Int × Int)) (W : World) (e : Ending) (W' : World) : Prop :=
  (e = .returned (.bool true) ∧ (∃ ys : List (Int × Int), ys.map Prod.fst = L ∧ J (pre ++ ys) W') ∧ KpB n₀ B W W') ∨ (e = .returned (.bool false) ∧ ∃ ys : List (Int × Int), ys.map Prod.fst <+: L ∧ Jx (pre ++ ys) W')
theorem tVisit1 (kid above : Int) (Vb Ab : Nat) (p1 p2 p3 : Value) (W : World) (c1 : W.cell? ⟨Vb, 0, none⟩ = some (.func (.func 144) #[] #[p1, p2, p3])) (c2 : W.cell? ⟨Ab, 0, none⟩ = some (.int .i64 above)) (R1 R2 : World → Prop)
    (h : ∀ a : Int, Calls Tryz.prog 144 (#[.int .i64 kid, .int .i64 a] ++ #[p1, p2, p3]) W fun e W' => (e = .returned (.bool true) ∧ R1 W') ∨ (e = .returned (.bool false) ∧ R2 W')) :
    Calls Tryz.prog 146 (#[.int .i64 kid] ++ #[.pointer (some ⟨Vb, 0, none⟩), .pointer (some ⟨Ab, 0, none⟩)]) W fun e W' => (e = .returned (.bool false) ∧ R1 W') ∨ (e = .returned (.bool true) ∧ R2 W') := by
  have H := Lib.hid h
  clear h
  go_enter Tryz.func146, Tryz.ntmps146
  go_wp2_with fail
  refine (H.out _).mono ?_
  rintro e w' (⟨rfl, hb'⟩ | ⟨rfl, hb'⟩)
  · dsimp only
    go_wp2
    go_ret
    exact .inl ⟨rfl, hb'⟩
  · dsimp only
    go_wp2
    go_ret
    exact .inr ⟨rfl, hb'⟩
theorem enters_tVisit1 : ∀ args w, (callFunc 146 args).run Tryz.prog w = .ok (.enter 146 args) w := enters_of Tryz.func146 (by kernel_rfl) rfl
theorem flat_next (g : Int → List Int) (ks : List Int) (i : Nat) (hi : i < ks.length) : (ks.take (i + 1)).flatMap g = (ks.take i).flatMap g ++ g ks[i] := by
  rw [List.take_succ_eq_append_getElem hi, List.flatMap_append]
  simp
theorem flat_split (g : Int → List Int) (ks : List Int) (i : Nat) (hi : i < ks.length) : ks.flatMap g = (ks.take i).flatMap g ++ (g ks[i] ++ (ks.drop (i + 1)).flatMap g) := by
  have h : ks.flatMap g = (ks.take (i + 1) ++ ks.drop (i + 1)).flatMap g := by rw [List.take_append_drop]
  rw [h, List.flatMap_append, flat_next g ks i hi, List.append_assoc]
/-- What holds behind i children. -/
def VisR (B lp Yb Tb Vb : Nat) (rv bv : Value) (w0 W : World) (above : Int) (pre : List (Int × Int)) (J : List (Int × Int) → World → Prop) (ks : List Int) (g : Int → List Int) (i : Nat) (W' : World) : Prop :=
  Boxes B lp Yb Tb Vb rv bv W' ∧ OutIn B W' ∧ Prot B W' W.heap.size (.cells #[.int .i64 above] 3 (0, 0)) ∧ Grew w0 W' ∧ KpB w0.heap.size B W W' ∧ ∃ ys : List (Int × Int), ys.map Prod.fst = (ks.take i).flatMap g ∧ J (pre ++ ys) W'
theorem VisR.grew {B lp Yb Tb Vb : Nat} {rv bv : Value} {w0 W W' : World} {above : Int} {pre : List (Int × Int)} {J : List (Int × Int) → World → Prop} {ks : List Int} {g : Int → List Int} {i : Nat} (h : VisR B lp Yb Tb Vb rv bv w0 W above pre J ks g i W') : Grew w0 W' := h.2.2.2.1
def VisS (pre : List (Int × Int)) (Jx : List (Int × Int) → World → Prop) (ks : List Int) (g : Int → List Int) (W' : World) : Prop := ∃ ys : List (Int × Int), ys.map Prod.fst <+: ks.flatMap g ∧ Jx (pre ++ ys) W'
theorem visStep {B lp Yb Tb Vb N : Nat} {rv bv : Value} {w0 W W4 : World} {above : Int} {pre : List (Int × Int)} {J Jx : List (Int × Int) → World → Prop} {ks : List Int} {g : Int → List Int} {i : Nat} (hi : i < ks.length) (hN : pre.length + (ks.flatMap g).length ≤ N)
    (hK : ∀ above pre W, Boxes B lp Yb Tb Vb rv bv W → OutIn B W → Grew w0 W → J pre W → pre.length + (g ks[i]).length ≤ N →
      Calls Tryz.prog 144 #[.int .i64 ks[i], .int .i64 above, .pointer (some ⟨Yb, 0, none⟩), .pointer (some ⟨Tb, 0, none⟩), .pointer (some ⟨Vb, 0, none⟩)] W (VisEnd J Jx w0.heap.size B (g ks[i]) pre W))
    (h : VisR B lp Yb Tb Vb rv bv w0 W above pre J ks g i W4) :
    Calls Tryz.prog 146 (#[.int .i64 ks[i]] ++ #[.pointer (some ⟨Vb, 0, none⟩), .pointer (some ⟨W.heap.size, 0, none⟩)]) W4 fun e W' => (e = .returned (.bool false) ∧ VisR B lp Yb Tb Vb rv bv w0 W above pre J ks g (i + 1) W') ∨ (e = .returned (.bool true) ∧ VisS pre Jx ks g W') := by
  obtain ⟨hB, hO, hPA, hG, hK4, ys, hys, hj⟩ := h
  obtain ⟨tv, hpv⟩ := hB.v
  have hsp := flat_split g ks i hi
  have hlen : ys.length = ((ks.take i).flatMap g).length := by rw [← hys, List.length_map]
  refine tVisit1 ks[i] above Vb W.heap.size _ _ _ W4 (hpv.cell 0 _ rfl) (hPA.cell 0 _ rfl) _ _ fun a => ?_
  refine (hK a (pre ++ ys) W4 hB hO hG hj ?_).mono ?_
  · rw [hsp] at hN
    simp only [List.length_append] at hN ⊢
    omega
  · rintro e W' (⟨rfl, ⟨zs, hzs, hj'⟩, hk'⟩ | ⟨rfl, zs, hzs, hj'⟩)
    · refine .inl ⟨rfl, hB.kp hk'.2, hO.kp hk'.2, hPA.kp hk'.2, Below.trans hG hk'.1, hK4.trans hk', ys ++ zs, ?_, by rw [← List.append_assoc]; exact hj'⟩
      rw [flat_next g ks i hi, List.map_append, hys, hzs]
    · refine .inr ⟨rfl, ys ++ zs, ?_, by rw [← List.append_assoc]; exact hj'⟩
      rw [hsp, List.map_append, hys]
      obtain ⟨r, hr⟩ := hzs
      exact ⟨r ++ (ks.drop (i + 1)).flatMap g, by rw [← hr]; simp⟩
set_option maxHeartbeats 4000000 in
set_option maxRecDepth 100000 in
/-- One activation: the unit itself, and then what its children hand on. -/
theorem tVisitBody (rs : List Int) (l : List Br) (rv bv : Value) (w0 : World) (hr : SlI w0 rv rs) (hv : SlBr w0 bv l) (hf : l.length ≤ 1000000) (hT : RightT ⟨rs, l⟩) (B lp Yb Tb Vb N : Nat) (J Jx : List (Int × Int) → World → Prop)
    (hJ : ∀ s W W', J s W → Grew W W' → J s W')
    (hY : ∀ m pre (x : Int × Int) W, J pre W → pre.length < N → YieldAt Fence.wide m Tryz.prog lp #[.int .i64 x.1, .int .i64 x.2] W fun e W' =>
      (e = .returned (.bool true) ∧ J (pre ++ [x]) W' ∧ KpB w0.heap.size B W W') ∨ (e = .returned (.bool false) ∧ Jx (pre ++ [x]) W'))
    (x : Int) (hid : x = 0 ∨ ∃ b, brFind l x = some b) (g : Int → List Int)
    (hK : ∀ k ∈ childs ⟨rs, l⟩ x, ∀ above pre W, Boxes B lp Yb Tb Vb rv bv W → OutIn B W → Grew w0 W → J pre W → pre.length + (g k).length ≤ N →
      Calls Tryz.prog 144 #[.int .i64 k, .int .i64 above, .pointer (some ⟨Yb, 0, none⟩), .pointer (some ⟨Tb, 0, none⟩), .pointer (some ⟨Vb, 0, none⟩)] W (VisEnd J Jx w0.heap.size B (g k) pre W))
    (above : Int) (pre : List (Int × Int)) (W : World) (hB : Boxes B lp Yb Tb Vb rv bv W) (hO : OutIn B W) (hG : Grew w0 W) (hj : J pre W) (hN : pre.length + (x :: (childs ⟨rs, l⟩ x).flatMap g).length ≤ N) :
    Calls Tryz.prog 144 #[.int .i64 x, .int .i64 above, .pointer (some ⟨Yb, 0, none⟩), .pointer (some ⟨Tb, 0, none⟩), .pointer (some ⟨Vb, 0, none⟩)] W (VisEnd J Jx w0.heap.size B (x :: (childs ⟨rs, l⟩ x).flatMap g) pre W) := by
  simp only [List.length_cons] at hN
  obtain ⟨W1, hW1⟩ : ∃ W1, W1 = W.alloc (.cells #[.int .i64 above] 3) := ⟨_, rfl⟩
  have hn0 : w0.heap.size ≤ W.heap.size := hG.size
  have hgA : Grew W W1 := by rw [hW1]; exact (Grew.refl W).alloc _
  have hkA : KpB w0.heap.size B W W1 := KpB.grew hO.1 hn0 hgA
  have hPA : Prot B W1 W.heap.size (.cells #[.int .i64 above] 3 (0, 0)) := by rw [hW1]; exact Prot.new hO rfl
  have hB1 := hB.kp hkA.2
  have hO1 := hO.kp hkA.2
  obtain ⟨fn, tmps, assign, body, hy, hR⟩ := hY 8 pre (x, above) W1 (hJ _ _ _ hj hgA) (by omega)
  obtain ⟨ty, hpy⟩ := hB1.y
  have cy : W1.cell? ⟨Yb, 0, none⟩ = some (.func (.yield lp) #[] #[]) := hpy.cell 0 _ rfl
  have ca : W1.cell? ⟨W.heap.size, 0, none⟩ = some (.int .i64 above) := hPA.cell 0 _ rfl
  have HPA := Lib.hid hPA
  have HB1 := Lib.hid hB1
  have HO1 := Lib.hid hO1
  have HKA := Lib.hid hkA
  have HG1 := Lib.hid (hG.trans hgA)
  have HN := Lib.hid hN
  have HK := Lib.hid hK
  have HJ := Lib.hid hJ
  have HKI := Lib.hid (fun W (hW : Grew w0 W) => tKids0 rs l x rv bv w0 W hr hv hW hf hT hid)
  generalize childs ⟨rs, l⟩ x = ks at HN HK HKI ⊢
  clear hr hv hT hJ hY hK hB hO hG hj hN hgA hkA hPA hB1 hO1 hpy hid hf hn0
  subst hW1
  refine (callsIn_wide (n := 9)).1 ?_
  refine callsIn_of_wp Tryz.func144 rfl trivial ?_ rfl
  simp only [Tryz.ntmps144, List.size_toArray, List.length_cons, List.length_nil, Nat.reduceAdd, Nat.reduceSub, Array.replicate_succ, Array.replicate_zero, List.push_toArray, List.append_toArray, List.nil_append, List.cons_append]
  gi_wp2_with fail
  refine hR.mono ?_
  rintro e W2 (⟨rfl, hJ2, hk2⟩ | ⟨rfl, hJx2⟩)
  · have HK2 := Lib.hid (HKA.out.trans hk2)
    have HB2 := Lib.hid (HB1.out.kp hk2.2)
    have HO2 := Lib.hid (HO1.out.kp hk2.2)
    have HPA2 := Lib.hid (HPA.out.kp hk2.2)
    have HG2 := Lib.hid (show Grew w0 W2 from Below.trans HG1.out hk2.1)
    obtain ⟨tt, hpt⟩ := HB2.out.t
    have t0 : W2.cell? ⟨Tb, 0, none⟩ = some rv := hpt.cell 0 _ rfl
    have t1 : W2.cell? ⟨Tb, 1, none⟩ = some bv := hpt.cell 1 _ rfl
    have HJ2 := Lib.hid hJ2
    clear hk2 hpt hJ2
    dsimp only
    gi_wp2_with fail
    refine ⟨trivial, (callsIn_wide.2 (HKI.out _ HG2.out)).mono ?_⟩
    rintro e W3 ⟨v3, rfl, s3, g3⟩
    have hk3 : KpB w0.heap.size B W2 W3 := KpB.grew HO2.out.1 HG2.out.size g3
    have hc := containsEff ks 146 #[.pointer (some ⟨Vb, 0, none⟩), .pointer (some ⟨W.heap.size, 0, none⟩)] enters_tVisit1 v3 w0 W3 s3 (VisR B lp Yb Tb Vb rv bv w0 W above (pre ++ [(x, above)]) J ks g) (VisS (pre ++ [(x, above)]) Jx ks g)
      ⟨HB2.out.kp hk3.2, HO2.out.kp hk3.2, HPA2.out.kp hk3.2, HG2.out.trans g3, HK2.out.trans hk3, [], by simp, by simpa using HJ.out _ _ _ HJ2.out g3⟩ (fun _ _ h => h.grew) (fun i hi W4 hR4 => visStep hi (by have := HN.out; simp only [List.length_append, List.length_cons, List.length_nil]; omega) (HK.out ks[i] (List.getElem_mem hi)) hR4)
    have HC := Lib.hid hc
    clear hk3 hc t0 t1 g3
    dsimp only
    gi_wp2_with fail
    refine ⟨trivial, (callsIn_wide.2 HC.out).mono ?_⟩
    rintro e W4 (⟨rfl, h4⟩ | ⟨rfl, h4⟩)
    · dsimp only
      gi_wp2
      go_ret
      obtain ⟨-, -, -, -, hk4, ys, hys, hj4⟩ := h4
      rw [List.take_length] at hys
      exact .inl ⟨rfl, ⟨(x, above) :: ys, by simp [hys], by simpa [List.append_assoc] using hj4⟩, hk4⟩
    · dsimp only
      gi_wp2
      go_ret
      obtain ⟨ys, hys, hj4⟩ := h4
      exact .inr ⟨rfl, (x, above) :: ys, by simpa using hys, by simpa [List.append_assoc] using hj4⟩
  · dsimp only
    gi_wp2
    go_ret
    exact .inr ⟨rfl, [(x, above)], by simp, hJx2⟩
end Go.Proofs.YtmbpeniaefpljaaGreatDoor
