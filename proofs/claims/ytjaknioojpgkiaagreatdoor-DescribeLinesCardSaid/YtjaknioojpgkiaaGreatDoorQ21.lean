/- Lemmas on what the functions of the program and of the library compute: RE4, PlainU, RE5, J2, J3, J4, Bk1, Bw1, Bw2. The conditions stand at each. -/
import Derived.Test.YtjaknioojpgkiaaGreatDoorQ14
import Derived.Test.YtjaknioojpgkiaaGreatDoorQ4
import Derived.Test.YtjaknioojpgkiaaGreatDoorQ19
import Derived.Test.YtjaknioojpgkiaaGreatDoorQ20
import Derived.Test.YtjaknioojpgkiaaGreatDoorQ18
import Derived.Test.YtjaknioojpgkiaaGreatDoorQ15
import Derived.Test.YtjaknioojpgkiaaGreatDoorQ16
import Derived.Test.YtjaknioojpgkiaaGreatDoorQ7
import Derived.RangeFuncLeaves
import Derived.RangeFuncBox
import Derived.OwnWalkIn
import Derived.TacticsInMore
import Derived.LoopNIn
import Derived.LoopIn
import Derived.Maps.AppendAt
/- The reference's path of a unit, walked. The conditions: every unit is found by its number, and stands below one that is there; the list is short. -/
namespace Go.Proofs.YtjaknioojpgkiaaGreatDoor
open Go.RowKit

theorem own_lit1 {W : World} {base : Nat} {e : TypeId} {x : Value} (H : Nat) (hH : W.heap.size = H) (hb : base ≤ H) : (W.alloc (.cells #[x] e)).ownsRow base e 1 (.slice (some ⟨H, 0, none⟩) 1 1) 1 [x] := by
  subst hH
  exact ⟨by simp, .inr ⟨W.heap.size, 1, #[x], rfl, hb, heap_alloc_new W _, Nat.le_refl _, (by unfold maxLen; omega), rfl, rfl⟩⟩
theorem path_own {w : World} {base : Nat} {v : Value} {x : Int} {out : List Int} (h : w.ownsRow base 3 1 v (1 + out.length) ([.int .i64 x] ++ out.flatMap oneI)) : ∃ A c, v = .slice A (out.length + 1) c ∧ SlI w (.slice A (out.length + 1) c) (x :: out) := by
  have e : ([.int .i64 x] ++ out.flatMap oneI) = (x :: out).flatMap oneI := by simp [oneI]
  rw [e, Nat.add_comm] at h
  have hs : SlI w v (x :: out) := Rd.of_own h
  obtain ⟨A, c, hv, -⟩ := hs.open_
  rw [List.length_cons] at hv
  subst hv
  exact ⟨A, c, rfl, hs⟩
def idOf : Option Br → Int
  | none => 0
  | some c => c.id
def goOn (l : List Br) (f : Nat) (out : List Int) : Option Br → List Int
  | none => out
  | some c => match upW l f c with
    | none => []
    | some ids => ids.reverse ++ out
theorem goOn_zero (l : List Br) (out : List Int) (c : Br) : goOn l 0 out (some c) = [] := rfl
theorem goOn_top (l : List Br) (f : Nat) (out : List Int) (c : Br) (h : c.parent = 0) : goOn l (f + 1) out (some c) = goOn l f (c.id :: out) none := by simp [goOn, upW, h]
theorem goOn_up (l : List Br) (f : Nat) (out : List Int) (c p : Br) (h : c.parent ≠ 0) (hp : brFind l c.parent = some p) : goOn l (f + 1) out (some c) = goOn l f (c.id :: out) (some p) := by
  simp only [goOn, upW, if_neg h, hp]
  cases upW l f p <;> simp
set_option maxHeartbeats 8000000 in
set_option maxRecDepth 100000 in
theorem refPath19 (l : List Br) (b : Br) (rv bv : Value) (w : World) (hv : SlBr w bv l) (hb : b ∈ l) (hf : ∀ c ∈ l, brFind l c.id = some c) (hz : ∀ c ∈ l, c.id ≠ 0) (hu : upOk l) (hl : l.length ≤ 1000000) :
    Calls Tryz.prog 213 #[.agg #[rv, bv], .int .i64 b.id] w (RetI (pathW l b) w) := by
  have HF := Lib.hid (fun n W (hW : Grew w W) => refFind19 l n rv bv W (hv.mono hW))
  have HB := Lib.hid hf
  have HZ := Lib.hid hz
  have HU := Lib.hid hu
  have hR : pathW l b = goOn l l.length [] (some b) := by
    show _ = match upW l l.length b with
      | none => []
      | some ids => ids.reverse ++ []
    unfold pathW
    cases upW l l.length b <;> simp
  rw [hR]
  generalize hR0 : goOn l l.length [] (some b) = R
  have HR := Lib.hid hR0
  have HM := Lib.hid hb
  obtain ⟨A, c, rfl, hlc, hc, -⟩ := hv.open_
  unfold maxLen at hc
  obtain ⟨k0, hk0, hx0, hx1, hx2⟩ := info_parts cinfoI
  generalize hid : b.id = bid
  have HID := Lib.hid hid
  clear hv hb hf hz hu hR hR0 hid
  go_enter Tryz.func213, Tryz.ntmps213
  go_wp2
  go_loopg [1, 5] (l.length + 1) (fun gg s1 s5 wr => ∃ (m : Nat) (cur : Option Br) (out : List Int), m ≤ l.length ∧ l.length + 1 - m ≤ gg ∧ out.length = m ∧ s1 = .int .i64 (idOf cur) ∧ Aside (SlI wr s5 out) ∧ Aside (Grew (w.alloc (.cells [rv, .slice A l.length c].toArray 25)) wr) ∧ Aside (∀ c, cur = some c → c ∈ l) ∧ Aside (goOn l (l.length - m) out cur = R))
  case atStart => exact ⟨0, some b, [], by omega, by omega, rfl, by rw [← HID.out]; rfl, (show Aside _ from SlI.nil _), (show Aside _ from Grew.refl _), (show Aside _ from fun c h => by cases h; exact HM.out), (show Aside _ from HR.out)⟩
  case round =>
    obtain ⟨m, cur, out, hm, hgm, rfl, rfl, OW, BW, HC, HG⟩ := hrel
    have GW := Lib.hid (((Grew.refl w).alloc _).trans BW.out)
    cases cur with
    | none =>
      have hRR : out = R := HG.out
      subst hRR
      clear HG HC
      unfold idOf
      go_wp2
      go_ret
      exact ⟨_, rfl, OW.out, GW.out⟩
    | some y =>
    have hmem := HC.out y rfl
    have hne : (y.id != 0) = true := by simpa using HZ.out y hmem
    have kF := fun W (hW : Grew w W) => HF.out y.id W hW
    simp only [HB.out y hmem] at kF
    have KF := Lib.hid kF
    obtain ⟨A5, c5, rfl, hl5, hc5, -⟩ := OW.out.open_
    unfold maxLen at hc5
    have HUP := Lib.hid (HU.out y hmem)
    have HT := Lib.hid (fun f => goOn_top l f out y)
    have HV := Lib.hid (fun f p => goOn_up l f out y p)
    have t0 := new_cell BW.out 0 _ rfl
    have t1 := new_cell BW.out 1 _ rfl
    unfold idOf
    obtain ⟨yi, yp, yl, yt, ym, yk⟩ := y
    dsimp only at hne KF HUP HT HV ⊢
    have hfl : (out.flatMap oneI).length = out.length * 1 := flatMap_len oneI 1 (fun _ => rfl) out
    have HFL := Lib.hid hfl
    clear kF hfl hmem
    by_cases hover : l.length < out.length + 1
    · have hoverz : (l.length : Int) < (out.length : Int) + 1 := by omega
      have hRR : R = [] := by
        have h := HG.out
        rw [show l.length - out.length = 0 by omega, goOn_zero] at h
        exact h.symm
      subst hRR
      clear HG HC HT HV HUP hover
      go_wp2_with fail
      refine (KF.out _ GW.out).mono ?_
      rintro e w2 ⟨rfl, g2⟩
      have HG2 := Lib.hid ((BW.out.trans g2).alloc (.cells #[.int .i64 yi, .int .i64 yp, .int .i64 yl, .string yt, .string ym] 54))
      have G2 := Lib.hid ((GW.out.trans g2).alloc (.cells #[.int .i64 yi, .int .i64 yp, .int .i64 yl, .string yt, .string ym] 54))
      have OW2 := Lib.hid (OW.out.mono (g2.alloc (.cells #[.int .i64 yi, .int .i64 yp, .int .i64 yl, .string yt, .string ym] 54)))
      have u1 := new_cell (Grew.refl (w2.alloc (.cells #[.int .i64 yi, .int .i64 yp, .int .i64 yl, .string yt, .string ym] 54))) 1 _ rfl
      have HU1 := Lib.hid u1
      clear g2 t0 t1 u1 KF
      dsimp only
      go_wp2_with (at_builtin; refine appR rfl _ _ 22 rfl (w2.alloc (.cells #[.int .i64 yi, .int .i64 yp, .int .i64 yl, .string yt, .string ym] 54)) 3 k0 (.int .i64 0) 1 8 Tryz.underlying22 hk0 hx0 hx1 hx2 rfl (by omega) _ 1 [.int .i64 yi] (by rfl) _ (own_lit1 _ (by simp) (by simp)) ((Grew.refl _).alloc _) _ out.length (out.flatMap oneI) (by rfl) (Rd.mono OW2.out ((Grew.refl _).alloc _)) HFL.out (one_cellsI _) (by unfold maxLen; omega) (by omega) ?_; intro v5 w5 o5 g5 _; obtain ⟨A6, c6, rfl, ho5⟩ := path_own o5; have O5 := Lib.hid ho5; have tt1 := new_cell (HG2.out.trans g5) 1 _ rfl; have uu1 := keep_cell g5 HU1.out; have G5 := Lib.hid (G2.out.trans g5); have BW5 := Lib.hid (HG2.out.trans g5); clear o5 g5 ho5)
      go_ret
      exact ⟨_, rfl, SlI.nil _, G5.out⟩
    have hoverz : ¬ (l.length : Int) < (out.length : Int) + 1 := by omega
    have hnx : ∃ cur' : Option Br, idOf cur' = yp ∧ (∀ c, cur' = some c → c ∈ l) ∧ goOn l (l.length - (out.length + 1)) (yi :: out) cur' = R := by
      have h := HG.out
      rw [show l.length - out.length = (l.length - (out.length + 1)) + 1 by omega] at h
      by_cases hp : yp = 0
      · refine ⟨none, by rw [hp]; rfl, (fun c h => by cases h), ?_⟩
        rw [HT.out _ hp] at h
        exact h
      · rcases HUP.out with h1 | ⟨q, hq⟩
        · exact absurd h1 hp
        · refine ⟨some q, (find_in hq).2, (fun c h => by cases h; exact (find_in hq).1), ?_⟩
          rw [HV.out _ q hp hq] at h
          exact h
    obtain ⟨cur', hc1, hc2, hc3⟩ := hnx
    have H1 := Lib.hid hc1
    have H2 := Lib.hid hc2
    have H3 := Lib.hid hc3
    clear hc1 hc2 hc3 hover HG HC HT HV HUP
    go_wp2_with fail
    refine (KF.out _ GW.out).mono ?_
    rintro e w2 ⟨rfl, g2⟩
    have HG2 := Lib.hid ((BW.out.trans g2).alloc (.cells #[.int .i64 yi, .int .i64 yp, .int .i64 yl, .string yt, .string ym] 54))
    have G2 := Lib.hid ((GW.out.trans g2).alloc (.cells #[.int .i64 yi, .int .i64 yp, .int .i64 yl, .string yt, .string ym] 54))
    have OW2 := Lib.hid (OW.out.mono (g2.alloc (.cells #[.int .i64 yi, .int .i64 yp, .int .i64 yl, .string yt, .string ym] 54)))
    have u1 := new_cell (Grew.refl (w2.alloc (.cells #[.int .i64 yi, .int .i64 yp, .int .i64 yl, .string yt, .string ym] 54))) 1 _ rfl
    have HU1 := Lib.hid u1
    clear g2 t0 t1 u1 KF
    dsimp only
    go_wp2_with (at_builtin; refine appR rfl _ _ 22 rfl (w2.alloc (.cells #[.int .i64 yi, .int .i64 yp, .int .i64 yl, .string yt, .string ym] 54)) 3 k0 (.int .i64 0) 1 8 Tryz.underlying22 hk0 hx0 hx1 hx2 rfl (by omega) _ 1 [.int .i64 yi] (by rfl) _ (own_lit1 _ (by simp) (by simp)) ((Grew.refl _).alloc _) _ out.length (out.flatMap oneI) (by rfl) (Rd.mono OW2.out ((Grew.refl _).alloc _)) HFL.out (one_cellsI _) (by unfold maxLen; omega) (by omega) ?_; intro v5 w5 o5 g5 _; obtain ⟨A6, c6, rfl, ho5⟩ := path_own o5; have O5 := Lib.hid ho5; have tt1 := new_cell (HG2.out.trans g5) 1 _ rfl; have uu1 := keep_cell g5 HU1.out; have G5 := Lib.hid (G2.out.trans g5); have BW5 := Lib.hid (HG2.out.trans g5); clear o5 g5 ho5)
    go_roundg (l.length + 1 - (out.length + 1))
    case measure => omega
    case rel => exact ⟨out.length + 1, cur', yi :: out, by omega, by omega, by rw [List.length_cons], by rw [H1.out], (show Aside _ from O5.out), (show Aside _ from BW5.out), (show Aside _ from H2.out), (show Aside _ from H3.out)⟩
end Go.Proofs.YtjaknioojpgkiaaGreatDoor

/- What relation.Check says of a right list, plainly. No condition. -/
namespace Go.Proofs.YtjaknioojpgkiaaGreatDoor
open Go.RowKit

theorem adj_pairwise {α : Type} {r : α → α → Prop} (tr : ∀ a b c, r a b → r b c → r a c) : ∀ (l : List α), (∀ (i : Nat) (h : i + 1 < l.length), r (l[i]'(by omega)) (l[i + 1]'h)) → l.Pairwise r
  | [], _ => List.Pairwise.nil
  | [_], _ => by simp
  | a :: b :: m, h => by
    have ih := adj_pairwise (r := r) tr (b :: m) (fun i hi => h (i + 1) (by simpa using hi))
    have hab : r a b := h 0 (by simp)
    refine List.Pairwise.cons ?_ ih
    intro x hx
    rcases List.mem_cons.1 hx with rfl | hx
    · exact hab
    · exact tr _ _ _ hab (List.rel_of_pairwise_cons ih hx)
end Go.Proofs.YtjaknioojpgkiaaGreatDoor

/- The reference's Check and Right of a tree, walked. The conditions: the lists are short, and the marks no longer than a string can be. -/
namespace Go.Proofs.YtjaknioojpgkiaaGreatDoor
open Go.RowKit

theorem alone_asc {l : List Br} (h : ∀ i (hi : i < l.length), BrAlone l i hi) : idsAsc l :=
  adj_pairwise (r := fun (a b : Br) => a.id < b.id) (fun (_ _ _ : Br) h1 h2 => Int.lt_trans h1 h2) l (fun i hi => by
    have := (h (i + 1) hi).2.2.1 (by omega)
    simpa using this)
theorem alone_pos {l : List Br} (h : ∀ i (hi : i < l.length), BrAlone l i hi) : ∀ b ∈ l, b.id ≠ 0 := fun b hb e => by
  obtain ⟨k, hk, rfl⟩ := List.mem_iff_getElem.1 hb
  have := within_t.1 (h k hk).1
  omega
theorem placed_up {l : List Br} (h : ∀ i (hi : i < l.length), BrPlaced l l[i]) : upOk l := fun b hb => by
  obtain ⟨k, hk, rfl⟩ := List.mem_iff_getElem.1 hb
  have := h k hk
  unfold BrPlaced at this
  by_cases hp : l[k].parent = 0
  · exact .inl hp
  · rw [if_neg hp] at this
    obtain ⟨p, hpp, _⟩ := this
    exact .inr ⟨p, hpp⟩
set_option maxHeartbeats 16000000 in
set_option maxRecDepth 100000 in
theorem refCheck19 (rs : List Int) (l : List Br) (rv bv : Value) (w : World) (hr : SlI w rv rs) (hv : SlBr w bv l) (hf : FewBr l) (hrl : rs.length ≤ 1000000) (hm : ∀ i (h : i < l.length), l[i].mark.size ≤ 9223372036854775807) :
    Calls Tryz.prog 162 #[.agg #[rv, bv]] w (RetIff2 (RightT ⟨rs, l⟩) w) := by
  have HO := Lib.hid (fun i (hi : i < l.length) W (hW : Grew w W) => refOwn19 l i hi rv bv W (hv.mono hW) (hm i hi))
  have HP := Lib.hid (fun y W (hW : Grew w W) => refPlace l y rv bv W (hv.mono hW))
  have HK := Lib.hid (fun ks p kv W (hW : Grew w W) (hk : SlI w kv ks) (h : ks.length ≤ 1000000) => refKids l ks p rv bv kv W (hv.mono hW) (hk.mono hW) hf.1 h)
  have HK0 := Lib.hid (fun p W (hW : Grew w W) => refKids l rs p rv bv rv W (hv.mono hW) (hr.mono hW) hf.1 hrl)
  have HW := Lib.hid (fun b W (hW : Grew w W) hb h1 h2 h3 => refPath19 l b rv bv W (hv.mono hW) hb h1 h2 h3 hf.1)
  have HD : RowKit.Hid (RightT ⟨rs, l⟩ ↔ l.length ≤ 256 ∧ (∀ i (h : i < l.length), BrAlone l i h) ∧ (∀ i (h : i < l.length), BrPlaced l l[i]) ∧ (∀ i (h : i < l.length), sortI l[i].kids = kidsOf l l[i].id) ∧ sortI rs = kidsOf l 0 ∧ ∀ i (h : i < l.length), BrDeep l l[i]) := Iff.rfl
  have HFK := Lib.hid hf.2
  generalize RightT ⟨rs, l⟩ = PR at HD ⊢
  obtain ⟨A, c, rfl, hlc, hc, hcell0⟩ := hv.open_
  obtain ⟨B, d, rfl, -, -, -⟩ := hr.open_
  unfold maxLen at hc
  have HR := Lib.hid hcell0
  have hl6 := hf.1
  clear hcell0 hv hr hf hm hrl
  by_cases h256 : 256 < l.length
  · have h256' : (256 : Int) < (l.length : Int) := by omega
    have Hn : RowKit.Hid (¬ PR) := fun h => by have := (HD.out.1 h).1; omega
    clear h256
    go_enter Tryz.func162, Tryz.ntmps162
    go_wp2
    go_ret2
    exact RetIff2.no _ 8 (by decide) Hn.out ((Grew.refl w).alloc _)
  have h256' : ¬ (256 : Int) < (l.length : Int) := by omega
  go_enter Tryz.func162, Tryz.ntmps162
  go_wp2
  go_loopg [4] l.length (fun gg s wr => ∃ k : Nat, k ≤ l.length ∧ l.length - k ≤ gg ∧ s = .int .i64 k ∧ Aside (Grew (w.alloc (.cells [.slice B rs.length d, .slice A l.length c].toArray 25)) wr) ∧ Aside (∀ j (h : j < l.length), j < k → BrAlone l j h))
  case atStart => exact ⟨0, by omega, by omega, rfl, (show Aside _ from Grew.refl _), (show Aside _ from fun j h h2 => absurd h2 (Nat.not_lt_zero _))⟩
  case round =>
    obtain ⟨k, hk, hgk, rfl, BW, M⟩ := hrel
    have GW := Lib.hid (((Grew.refl w).alloc _).trans BW.out)
    have t0 := new_cell BW.out 0 _ rfl
    have t1 := new_cell BW.out 1 _ rfl
    by_cases hlt : k < l.length
    · have hltz : (k : Int) < (l.length : Int) := by omega
      have kO := HO.out k hlt wr GW.out
      have hPK : ∃ PK, RowKit.Hid (BrAlone l k hlt = PK) := ⟨_, rfl⟩
      obtain ⟨PK, HPK⟩ := hPK
      have HN : RowKit.Hid (¬ PK → ¬ PR) := by rw [← HPK.out]; exact fun h h2 => h ((HD.out.1 h2).2.1 k hlt)
      have HY : RowKit.Hid (PK → ∀ j (h : j < l.length), j < k + 1 → BrAlone l j h) := by
        rw [← HPK.out]
        exact fun h j hj h2 => by
          by_cases e : j = k
          · subst e; exact h
          · exact M.out j hj (by omega)
      rw [HPK.out] at kO
      have KO := Lib.hid kO
      clear kO M
      go_wp2_with fail
      refine KO.out.mono ?_
      rintro e w1 ⟨n, rfl, hn, g1⟩
      have HG := Lib.hid (GW.out.trans g1)
      have BG := Lib.hid (BW.out.trans g1)
      clear g1 KO t0 t1
      have HNN := Lib.hid hn
      clear hn
      dsimp only
      by_cases hz : n = 0
      case neg =>
        have hz' : (n != 0) = true := by simpa using hz
        have Hz := Lib.hid hz
        have Hn := Lib.hid (HN.out (fun h => hz (HNN.out.2 h)))
        clear hz
        go_wp2
        go_ret2
        exact RetIff2.no _ n Hz.out Hn.out HG.out
      · subst hz
        have Hy := Lib.hid (HY.out (HNN.out.1 rfl))
        go_wp2
        go_roundg (l.length - (k + 1))
        case measure => omega
        case rel => exact ⟨k + 1, by omega, by omega, by go_num, (show Aside _ from BG.out), (show Aside _ from Hy.out)⟩
    have hltz : ¬ (k : Int) < (l.length : Int) := by omega
    have HALL1 : RowKit.Hid (∀ j (h : j < l.length), BrAlone l j h) := fun j h => M.out j h (by omega)
    clear M
    go_wp2
    clear t0 t1
    go_loopg [6] l.length (fun gg s wr => ∃ k : Nat, k ≤ l.length ∧ l.length - k ≤ gg ∧ s = .int .i64 k ∧ Aside (Grew (w.alloc (.cells [.slice B rs.length d, .slice A l.length c].toArray 25)) wr) ∧ Aside (∀ j (h : j < l.length), j < k → BrPlaced l l[j]))
    case atStart => exact ⟨0, by omega, by omega, rfl, (show Aside _ from BW.out), (show Aside _ from fun j h h2 => absurd h2 (Nat.not_lt_zero _))⟩
    case round =>
      obtain ⟨k, hk, hgk, rfl, BW, M⟩ := hrel
      have GW := Lib.hid (((Grew.refl w).alloc _).trans BW.out)
      have t0 := new_cell BW.out 0 _ rfl
      have t1 := new_cell BW.out 1 _ rfl
      by_cases hlt : k < l.length
      · have hltz : (k : Int) < (l.length : Int) := by omega
        have h0z : (0 : Int) ≤ (k : Int) := by omega
        obtain ⟨b, off, rfl, hb, hcell⟩ := HR.out (by omega)
        obtain ⟨kv, hkv, hcl⟩ := hcell k hlt
        obtain ⟨c0, c1, c2, c3, c4, c5⟩ := hcl wr GW.out
        have kP := fun W hW => HP.out l[k] W hW
        have hPK : ∃ PK, RowKit.Hid (BrPlaced l l[k] = PK) := ⟨_, rfl⟩
        obtain ⟨PK, HPK⟩ := hPK
        have HN : RowKit.Hid (¬ PK → ¬ PR) := by rw [← HPK.out]; exact fun h h2 => h ((HD.out.1 h2).2.2.1 k hlt)
        have HY : RowKit.Hid (PK → ∀ j (h : j < l.length), j < k + 1 → BrPlaced l l[j]) := by
          rw [← HPK.out]
          exact fun h j hj h2 => by
            by_cases e : j = k
            · subst e; exact h
            · exact M.out j hj (by omega)
        rw [HPK.out] at kP
        generalize l[k] = y at c0 c1 c2 c3 c4 c5 kP hkv
        obtain ⟨yi, yp, yl, yt, ym, yk⟩ := y
        dsimp only at c0 c1 c2 c3 c4 c5 kP hkv
        have KP := Lib.hid kP
        clear kP M hcell hcl hkv c5
        go_wp2_with fail
        refine region_still_tail 7 (by kernel_rfl) (by kernel_rfl) ?_
        simp only [List.take_succ_cons, List.take_zero, List.drop_succ_cons, List.drop_zero]
        iterate 7 still_step
        refine wpStill_nil ?_
        go_wp2_with fail
        refine (KP.out _ GW.out.drew).mono ?_
        rintro e w1 ⟨n, rfl, hn, g1⟩
        have HG := Lib.hid (GW.out.drew.trans g1)
        have BG := Lib.hid (BW.out.drew.trans g1)
        clear g1 KP t0 t1 c0 c1 c2 c3 c4
        have HNN := Lib.hid hn
        clear hn
        dsimp only
        by_cases hz : n = 0
        case neg =>
          have hz' : (n != 0) = true := by simpa using hz
          have Hz := Lib.hid hz
          have Hn := Lib.hid (HN.out (fun h => hz (HNN.out.2 h)))
          clear hz
          go_wp2
          go_ret2
          exact RetIff2.no _ n Hz.out Hn.out HG.out
        · subst hz
          have Hy := Lib.hid (HY.out (HNN.out.1 rfl))
          go_wp2
          go_roundg (l.length - (k + 1))
          case measure => omega
          case rel => exact ⟨k + 1, by omega, by omega, by go_num, (show Aside _ from BG.out), (show Aside _ from Hy.out)⟩
      have hltz : ¬ (k : Int) < (l.length : Int) := by omega
      have HALL2 : RowKit.Hid (∀ j (h : j < l.length), BrPlaced l l[j]) := fun j h => M.out j h (by omega)
      have HASC := Lib.hid (alone_asc HALL1.out)
      clear M
      go_wp2
      clear t0 t1
      go_loopg [8] l.length (fun gg s wr => ∃ k : Nat, k ≤ l.length ∧ l.length - k ≤ gg ∧ s = .int .i64 k ∧ Aside (Grew (w.alloc (.cells [.slice B rs.length d, .slice A l.length c].toArray 25)) wr) ∧ Aside (∀ j (h : j < l.length), j < k → sortI l[j].kids = kidsOf l l[j].id))
      case atStart => exact ⟨0, by omega, by omega, rfl, (show Aside _ from BW.out), (show Aside _ from fun j h h2 => absurd h2 (Nat.not_lt_zero _))⟩
      case round =>
        obtain ⟨k, hk, hgk, rfl, BW, M⟩ := hrel
        have GW := Lib.hid (((Grew.refl w).alloc _).trans BW.out)
        have t0 := new_cell BW.out 0 _ rfl
        have t1 := new_cell BW.out 1 _ rfl
        by_cases hlt : k < l.length
        · have hltz : (k : Int) < (l.length : Int) := by omega
          have h0z : (0 : Int) ≤ (k : Int) := by omega
          obtain ⟨b, off, rfl, hb, hcell⟩ := HR.out (by omega)
          obtain ⟨kv, hkv, hcl⟩ := hcell k hlt
          obtain ⟨c0, c1, c2, c3, c4, c5⟩ := hcl wr GW.out
          have kK := fun W hW => HK.out l[k].kids l[k].id kv W hW hkv (HFK.out k hlt)
          simp only [kids_ok HASC.out] at kK
          have hPK : ∃ PK, RowKit.Hid ((sortI l[k].kids = kidsOf l l[k].id) = PK) := ⟨_, rfl⟩
          obtain ⟨PK, HPK⟩ := hPK
          have HN : RowKit.Hid (¬ PK → ¬ PR) := by rw [← HPK.out]; exact fun h h2 => h ((HD.out.1 h2).2.2.2.1 k hlt)
          have HY : RowKit.Hid (PK → ∀ j (h : j < l.length), j < k + 1 → sortI l[j].kids = kidsOf l l[j].id) := by
            rw [← HPK.out]
            exact fun h j hj h2 => by
              by_cases e : j = k
              · subst e; exact h
              · exact M.out j hj (by omega)
          rw [HPK.out] at kK
          generalize l[k] = y at c0 c1 c2 c3 c4 c5 kK hkv
          obtain ⟨yi, yp, yl, yt, ym, yk⟩ := y
          dsimp only at c0 c1 c2 c3 c4 c5 kK hkv
          obtain ⟨Ak, ck, rfl, -, -, -⟩ := hkv.open_
          have KK := Lib.hid kK
          clear kK M hcell hcl hkv c1 c2 c3 c4
          go_wp2_with fail
          refine region_still_tail 14 (by kernel_rfl) (by kernel_rfl) ?_
          simp only [List.take_succ_cons, List.take_zero, List.drop_succ_cons, List.drop_zero]
          iterate 14 still_step
          refine wpStill_nil ?_
          go_wp2_with fail
          refine (KK.out _ GW.out.drew).mono ?_
          rintro e w1 ⟨q, rfl, hn, g1⟩
          have HG := Lib.hid (GW.out.drew.trans g1)
          have BG := Lib.hid (BW.out.drew.trans g1)
          have HNN := Lib.hid hn
          clear g1 KK t0 t1 c0 c5 hn
          dsimp only
          cases q
          · have Hn := Lib.hid (HN.out (fun h => by have := HNN.out.2 h; cases this))
            go_wp2
            go_ret2
            exact RetIff2.no _ 10 (by decide) Hn.out HG.out
          · have Hy := Lib.hid (HY.out (HNN.out.1 rfl))
            go_wp2
            go_roundg (l.length - (k + 1))
            case measure => omega
            case rel => exact ⟨k + 1, by omega, by omega, by go_num, (show Aside _ from BG.out), (show Aside _ from Hy.out)⟩
        have hltz : ¬ (k : Int) < (l.length : Int) := by omega
        have HALL3 : RowKit.Hid (∀ j (h : j < l.length), sortI l[j].kids = kidsOf l l[j].id) := fun j h => M.out j h (by omega)
        have kR := fun W hW => HK0.out 0 W hW
        simp only [kids_ok HASC.out] at kR
        have KR := Lib.hid kR
        clear M kR
        go_wp2_with fail
        refine (KR.out _ GW.out).mono ?_
        rintro e w1 ⟨q, rfl, hn, g1⟩
        have HG := Lib.hid (GW.out.trans g1)
        have BG := Lib.hid (BW.out.trans g1)
        have HNN := Lib.hid hn
        clear g1 KR t0 t1 hn
        dsimp only
        cases q
        · have Hn : RowKit.Hid (¬ PR) := fun h => by have := HNN.out.2 (HD.out.1 h).2.2.2.2.1; cases this
          go_wp2
          go_ret2
          exact RetIff2.no _ 10 (by decide) Hn.out HG.out
        have HRT := Lib.hid (HNN.out.1 rfl)
        go_wp2
        go_loopg [9] l.length (fun gg s wr => ∃ k : Nat, k ≤ l.length ∧ l.length - k ≤ gg ∧ s = .int .i64 k ∧ Aside (Grew (w.alloc (.cells [.slice B rs.length d, .slice A l.length c].toArray 25)) wr) ∧ Aside (∀ j (h : j < l.length), j < k → BrDeep l l[j]))
        case atStart => exact ⟨0, by omega, by omega, rfl, (show Aside _ from BG.out), (show Aside _ from fun j h h2 => absurd h2 (Nat.not_lt_zero _))⟩
        case round =>
          obtain ⟨k, hk, hgk, rfl, BW, M⟩ := hrel
          have GW := Lib.hid (((Grew.refl w).alloc _).trans BW.out)
          have t0 := new_cell BW.out 0 _ rfl
          have t1 := new_cell BW.out 1 _ rfl
          by_cases hlt : k < l.length
          · have hltz : (k : Int) < (l.length : Int) := by omega
            have h0z : (0 : Int) ≤ (k : Int) := by omega
            obtain ⟨b, off, rfl, hb, hcell⟩ := HR.out (by omega)
            obtain ⟨kv, hkv, hcl⟩ := hcell k hlt
            obtain ⟨c0, c1, c2, c3, c4, c5⟩ := hcl wr GW.out
            have hmem : l[k] ∈ l := List.getElem_mem hlt
            have kW := fun W hW => HW.out l[k] W hW hmem (fun c hc => find_byid HASC.out hc) (alone_pos HALL1.out) (placed_up HALL2.out)
            have hpd := (path_deep HASC.out (placed_up HALL2.out) hmem).1
            have hPK : ∃ PK, RowKit.Hid (BrDeep l l[k] = PK) := ⟨_, rfl⟩
            obtain ⟨PK, HPK⟩ := hPK
            have HN : RowKit.Hid (¬ PK → ¬ PR) := by rw [← HPK.out]; exact fun h h2 => h ((HD.out.1 h2).2.2.2.2.2 k hlt)
            have HY : RowKit.Hid (PK → ∀ j (h : j < l.length), j < k + 1 → BrDeep l l[j]) := by
              rw [← HPK.out]
              exact fun h j hj h2 => by
                by_cases e : j = k
                · subst e; exact h
                · exact M.out j hj (by omega)
            rw [HPK.out] at hpd
            generalize pathW l l[k] = PW at kW hpd
            generalize l[k] = y at c0 c1 c2 c3 c4 c5 kW hkv
            obtain ⟨yi, yp, yl, yt, ym, yk⟩ := y
            dsimp only at c0 c1 c2 c3 c4 c5 kW hkv
            have KW := Lib.hid kW
            have HPD := Lib.hid hpd
            clear kW M hcell hcl hkv c1 c2 c3 c4 c5 hpd hmem
            go_wp2_with fail
            refine region_still_tail 8 (by kernel_rfl) (by kernel_rfl) ?_
            simp only [List.take_succ_cons, List.take_zero, List.drop_succ_cons, List.drop_zero]
            iterate 8 still_step
            refine wpStill_nil ?_
            go_wp2_with fail
            refine (KW.out _ GW.out.drew).mono ?_
            rintro e w1 ⟨v1, rfl, s1, g1⟩
            have HG := Lib.hid (GW.out.drew.trans g1)
            have BG := Lib.hid (BW.out.drew.trans g1)
            obtain ⟨A1, c1, rfl, hl1, hc1, -⟩ := s1.open_
            unfold maxLen at hc1
            clear g1 KW t0 t1 c0 s1
            dsimp only
            by_cases h0 : PW.length = 0
            · have h0' : ((PW.length : Int) == 0) = true := by simpa using h0
              have Hn := Lib.hid (HN.out (fun h => (HPD.out.1 h).1 h0))
              clear h0
              go_wp2
              go_ret2
              exact RetIff2.no _ 17 (by decide) Hn.out HG.out
            have h0' : ((PW.length : Int) == 0) = false := by simpa using h0
            by_cases h12 : 12 < PW.length
            · have h12' : (12 : Int) < (PW.length : Int) := by omega
              have Hn := Lib.hid (HN.out (fun h => by have := (HPD.out.1 h).2; omega))
              clear h0
              go_wp2
              go_ret2
              exact RetIff2.no _ 15 (by decide) Hn.out HG.out
            have h12' : ¬ (12 : Int) < (PW.length : Int) := by omega
            have Hy := Lib.hid (HY.out (HPD.out.2 ⟨h0, by omega⟩))
            clear h0
            go_wp2
            go_roundg (l.length - (k + 1))
            case measure => omega
            case rel => exact ⟨k + 1, by omega, by omega, by go_num, (show Aside _ from BG.out), (show Aside _ from Hy.out)⟩
          have hltz : ¬ (k : Int) < (l.length : Int) := by omega
          have Hy := Lib.hid (HD.out.2 ⟨by omega, HALL1.out, HALL2.out, HALL3.out, HRT.out, fun j h => M.out j h (by omega)⟩)
          clear M t0
          go_wp2
          go_ret2
          exact RetIff2.yes _ Hy.out GW.out
theorem refRight19 (rs : List Int) (l : List Br) (rv bv : Value) (w : World) (hr : SlI w rv rs) (hv : SlBr w bv l) (hf : FewBr l) (hrl : rs.length ≤ 1000000) (hm : ∀ i (h : i < l.length), l[i].mark.size ≤ 9223372036854775807) :
    Calls Tryz.prog 120 #[.agg #[rv, bv]] w (RetB (RightT ⟨rs, l⟩) w) := by
  have K := Lib.hid (fun W (hW : Grew w W) => refCheck19 rs l rv bv W (hr.mono hW) (hv.mono hW) hf hrl hm)
  clear hr hv hf hrl hm
  go_enter Tryz.func120, Tryz.ntmps120
  go_wp2_with fail
  refine (K.out _ ((Grew.refl w).alloc _)).mono ?_
  rintro e w1 ⟨i, n, rfl, hn, g⟩
  have HN := Lib.hid hn
  have HG := Lib.hid (((Grew.refl w).alloc _).trans g)
  clear hn g
  dsimp only
  cases hz : (n == 0)
  · go_wp2
    go_ret
    exact ⟨false, rfl, ⟨(fun h => by cases h), (fun h => by rw [HN.out.2 h] at hz; cases hz)⟩, HG.out⟩
  · go_wp2
    go_ret
    exact ⟨true, rfl, ⟨fun _ => HN.out.1 (by simpa using hz), fun _ => rfl⟩, HG.out⟩
end Go.Proofs.YtjaknioojpgkiaaGreatDoor

/- The reference's Right and asked of layer 28, walked. The condition: the lists are short. -/
namespace Go.Proofs.YtjaknioojpgkiaaGreatDoor
open Go.RowKit

set_option maxHeartbeats 1000000 in
theorem refRightV (ls : List ByteArray) (vs : List Val) (lv vv : Value) (w : World) (hl : SlS w lv ls) (hvv : SlV w vv vs) : Calls Tryz.prog 121 #[lv, vv] w fun e w' => e = .returned (.bool ((checkF ls vs).2 == 0)) ∧ Grew w w' := by
  have K := Lib.hid (refCheck_any ls vs lv vv w hl hvv)
  clear hl hvv
  generalize checkF ls vs = C at K ⊢
  obtain ⟨c1, c2⟩ := C
  dsimp only at K ⊢
  go_enter Tryz.func121, Tryz.ntmps121
  go_wp2_with (go_at_call 163; refine K.out.mono ?_; rintro e w1 ⟨rfl, g1⟩)
  go_ret
  exact ⟨rfl, g1⟩
set_option maxHeartbeats 2000000 in
theorem refRightI (t : Tr) (ls : List ByteArray) (vs : List Val) (rv bv lv vv : Value) (w : World) (hr : SlI w rv t.roots) (hv : SlBr w bv t.brs) (hf : FewBr t.brs) (hrl : t.roots.length ≤ 1000000) (hm : ∀ i (h : i < t.brs.length), t.brs[i].mark.size ≤ 9223372036854775807) (hl : SlS w lv ls) (hvv : SlV w vv vs) :
    Calls Tryz.prog 60 #[.agg #[rv, bv], lv, vv] w fun e w' => e = .returned (.bool (ofI t ls vs == 0)) ∧ Grew w w' := by
  have KT := Lib.hid (fun W (hW : Grew w W) => refRight19 t.roots t.brs rv bv W (hr.mono hW) (hv.mono hW) hf hrl hm)
  have kV := fun W (hW : Grew w W) => refRightV ls vs lv vv W (hl.mono hW) (hvv.mono hW)
  have h1 : RightT t → (ofI t ls vs == 0) = ((checkF ls vs).2 == 0) := fun h => by
    unfold ofI
    by_cases hc : (checkF ls vs).2 = 0
    · rw [if_pos ⟨h, hc⟩, hc]
    · rw [if_neg (fun k => hc k.2)]
      have : ((checkF ls vs).2 == 0) = false := by simpa using hc
      rw [this]
      rfl
  have h2 : ¬ RightT t → (ofI t ls vs == 0) = false := fun h => by
    unfold ofI
    rw [if_neg (fun k => h k.1)]
    rfl
  generalize (ofI t ls vs == 0) = N at h1 h2 ⊢
  generalize ((checkF ls vs).2 == 0) = c at kV h1
  have H1 := Lib.hid h1
  have H2 := Lib.hid h2
  have KV := Lib.hid kV
  obtain ⟨Ar, cr, rfl, -⟩ := hr.open_
  obtain ⟨Ab, cb, rfl, -⟩ := hv.open_
  clear h1 h2 kV hr hv hf hrl hm hl hvv
  go_enter Tryz.func60, Tryz.ntmps60
  go_wp2_with fail
  refine (KT.out _ ((Grew.refl w).alloc _)).mono ?_
  rintro e w1 ⟨q, rfl, hq, g1⟩
  have HG := Lib.hid (((Grew.refl w).alloc _).trans g1)
  have HQ := Lib.hid hq
  clear g1 hq
  dsimp only
  cases q with
  | false =>
    obtain rfl := H2.out (fun h => by have := HQ.out.2 h; cases this)
    clear HQ H1 H2
    go_wp2_with fail
    go_ret
    exact ⟨rfl, HG.out⟩
  | true =>
    obtain rfl := H1.out (HQ.out.1 rfl)
    clear HQ H1 H2
    go_wp2_with fail
    refine (KV.out _ HG.out).mono ?_
    rintro e w2 ⟨rfl, g2⟩
    have HG2 := Lib.hid (HG.out.trans g2)
    clear g2
    dsimp only
    go_wp2
    go_ret
    exact ⟨rfl, HG2.out⟩
end Go.Proofs.YtjaknioojpgkiaaGreatDoor

/- The reference's asked of layer 28, walked. The condition: the lists are short. -/
namespace Go.Proofs.YtjaknioojpgkiaaGreatDoor
open Go.RowKit

theorem isElement_any (n : Int) (w : World) : Calls Tryz.prog 62 #[.int .i64 n] w fun e w' => e = .returned (.bool (isEl n)) ∧ w = w' := by
  cases h : isEl n with
  | true => exact isElement_t n w h
  | false => exact isElement_f n w h
set_option maxHeartbeats 4000000 in
theorem refAskedI (t : Tr) (ls : List ByteArray) (vs : List Val) (u n : Int) (lang : ByteArray) (rv bv lv vv : Value) (w : World) (hr : SlI w rv t.roots) (hv : SlBr w bv t.brs) (hf : FewBr t.brs) (hrl : t.roots.length ≤ 1000000) (hm : ∀ i (h : i < t.brs.length), t.brs[i].mark.size ≤ 9223372036854775807) (hl : SlS w lv ls) (hvv : SlV w vv vs) :
    Calls Tryz.prog 122 #[.agg #[rv, bv], lv, vv, .int .i64 u, .int .i64 n, .string lang] w fun e w' => e = .returned (.int .i64 (askI t ls vs u n lang)) ∧ Grew w w' := by
  have kR := fun W (hW : Grew w W) => refRightI t ls vs rv bv lv vv W (hr.mono hW) (hv.mono hW) hf hrl hm (hl.mono hW) (hvv.mono hW)
  have kF := fun W (hW : Grew w W) => refFind19 t.brs u rv bv W (hv.mono hW)
  unfold TFindEnd at kF
  have KE := Lib.hid (fun W => isElement_any n W)
  have KL := Lib.hid (fun W => isLanguage_any lang W)
  obtain ⟨Ar, cr, rfl, -⟩ := hr.open_
  obtain ⟨Ab, cb, rfl, -⟩ := hv.open_
  have HC := Lib.hid (fun W g => two_cells (heap_keepI (W' := W) g (heap_newI w (.cells [.slice Ar t.roots.length cr, .slice Ab t.brs.length cb].toArray 25))))
  clear hr hv hf hrl hm hl hvv
  have hof : ofI t ls vs = 0 ∨ ofI t ls vs = 1 := by
    unfold ofI
    split
    · exact .inl rfl
    · exact .inr rfl
  have hask : askI t ls vs u n lang = if ofI t ls vs = 0 then (if (brFind t.brs u).isSome = true then (if isEl n = true then (if isLangF lang.data.toList = true then 0 else 3) else 2) else 7) else 1 := by
    unfold askI hasI numI lanI
    rcases hof with h | h
    · rw [h]
      cases (brFind t.brs u).isSome <;> cases isEl n <;> cases isLangF lang.data.toList <;> rfl
    · rw [h]
      rfl
  rw [hask]
  have hb : (ofI t ls vs == 0) = decide (ofI t ls vs = 0) := by
    by_cases h : ofI t ls vs = 0
    · simp [h]
    · simp [h]
  rw [hb] at kR
  generalize hq : decide (ofI t ls vs = 0) = q at kR
  have KR := Lib.hid kR
  generalize hs : (brFind t.brs u).isSome = s at kF
  generalize (brFind t.brs u).getD br0 = f at kF
  have KF := Lib.hid kF
  generalize hel : isEl n = el at KE
  generalize hla : isLangF lang.data.toList = la at KL
  have GA := Lib.hid ((Grew.refl w).alloc (.cells [.slice Ar t.roots.length cr, .slice Ab t.brs.length cb].toArray 25))
  cases q with
  | false =>
    rw [if_neg (of_decide_eq_false hq)]
    clear hask hb hq hs hel hla hof kR kF KF KE KL
    go_enter Tryz.func122, Tryz.ntmps122
    go_wp2_with fail
    refine (KR.out _ GA.out).mono ?_
    rintro e w1 ⟨rfl, g1⟩
    have HG := Lib.hid (GA.out.trans g1)
    clear g1
    dsimp only
    go_wp2
    go_ret
    exact ⟨rfl, HG.out⟩
  | true =>
    rw [if_pos (of_decide_eq_true hq)]
    clear hask hb hq hof kR kF
    cases s with
    | false =>
      rw [if_neg (by decide)]
      clear hs hel hla KE KL
      go_enter Tryz.func122, Tryz.ntmps122
      go_wp2_with fail
      refine (KR.out _ GA.out).mono ?_
      rintro e w1 ⟨rfl, g1⟩
      have HG := Lib.hid (GA.out.trans g1)
      obtain ⟨x0, x1⟩ := HC.out w1 g1
      clear g1
      dsimp only
      go_wp2_with fail
      refine (KF.out _ HG.out).mono ?_
      rintro e w2 ⟨rfl, g2⟩
      have HG2 := Lib.hid (HG.out.trans g2)
      clear g2
      dsimp only
      go_wp2
      go_ret
      exact ⟨rfl, HG2.out.alloc _⟩
    | true =>
      rw [if_pos rfl]
      clear hs
      cases el with
      | false =>
        rw [if_neg (by decide)]
        clear hel hla KL
        go_enter Tryz.func122, Tryz.ntmps122
        go_wp2_with fail
        refine (KR.out _ GA.out).mono ?_
        rintro e w1 ⟨rfl, g1⟩
        have HG := Lib.hid (GA.out.trans g1)
        obtain ⟨x0, x1⟩ := HC.out w1 g1
        clear g1
        dsimp only
        go_wp2_with fail
        refine (KF.out _ HG.out).mono ?_
        rintro e w2 ⟨rfl, g2⟩
        have HG2 := Lib.hid (HG.out.trans g2)
        clear g2 x0 x1
        dsimp only
        go_wp2_with (go_at_call 62; refine (KE.out _).mono ?_; rintro e w3 ⟨rfl, rfl⟩)
        go_ret
        exact ⟨rfl, HG2.out.alloc _⟩
      | true =>
        rw [if_pos rfl]
        clear hel
        clear hla
        cases la with
        | false =>
          rw [if_neg (by decide)]
          go_enter Tryz.func122, Tryz.ntmps122
          go_wp2_with fail
          refine (KR.out _ GA.out).mono ?_
          rintro e w1 ⟨rfl, g1⟩
          have HG := Lib.hid (GA.out.trans g1)
          obtain ⟨x0, x1⟩ := HC.out w1 g1
          clear g1
          dsimp only
          go_wp2_with fail
          refine (KF.out _ HG.out).mono ?_
          rintro e w2 ⟨rfl, g2⟩
          have HG2 := Lib.hid (HG.out.trans g2)
          clear g2 x0 x1
          dsimp only
          go_wp2_with (first | (go_at_call 62; refine (KE.out _).mono ?_; rintro e w3 ⟨rfl, rfl⟩) | (go_at_call 75; refine (KL.out _).mono ?_; rintro e w4 ⟨rfl, rfl⟩))
          go_ret
          exact ⟨rfl, HG2.out.alloc _⟩
        | true =>
          rw [if_pos rfl]
          go_enter Tryz.func122, Tryz.ntmps122
          go_wp2_with fail
          refine (KR.out _ GA.out).mono ?_
          rintro e w1 ⟨rfl, g1⟩
          have HG := Lib.hid (GA.out.trans g1)
          obtain ⟨x0, x1⟩ := HC.out w1 g1
          clear g1
          dsimp only
          go_wp2_with fail
          refine (KF.out _ HG.out).mono ?_
          rintro e w2 ⟨rfl, g2⟩
          have HG2 := Lib.hid (HG.out.trans g2)
          clear g2 x0 x1
          dsimp only
          go_wp2_with (first | (go_at_call 62; refine (KE.out _).mono ?_; rintro e w3 ⟨rfl, rfl⟩) | (go_at_call 75; refine (KL.out _).mono ?_; rintro e w4 ⟨rfl, rfl⟩))
          go_ret
          exact ⟨rfl, HG2.out.alloc _⟩
end Go.Proofs.YtjaknioojpgkiaaGreatDoor

/- The reference's Found of layer 28, walked. The condition: the lists are short. -/
namespace Go.Proofs.YtjaknioojpgkiaaGreatDoor
open Go.RowKit

/-- A call that returns a value, whether there is one, and an error. -/
def RetVE (o : Option Val × Int) (w : World) (e : Ending) (w' : World) : Prop := e = .returned (.tuple #[(o.1.getD val0).agg, .bool o.1.isSome, .int .i64 o.2]) ∧ Grew w w'
set_option maxHeartbeats 4000000 in
set_option maxRecDepth 100000 in
theorem refFoundX (t : Tr) (ls : List ByteArray) (vs : List Val) (u n : Int) (lang : ByteArray) (rv bv lv vv : Value) (w : World) (hr : SlI w rv t.roots) (hv : SlBr w bv t.brs) (hf : FewBr t.brs) (hrl : t.roots.length ≤ 1000000) (hm : ∀ i (h : i < t.brs.length), t.brs[i].mark.size ≤ 9223372036854775807) (hl : SlS w lv ls) (hvv : SlV w vv vs) :
    Calls Tryz.prog 67 #[.agg #[rv, bv], lv, vv, .int .i64 u, .int .i64 n, .string lang] w (RetVE (foundR t ls vs u n lang) w) := by
  have kA := fun W (hW : Grew w W) => refAskedI t ls vs u n lang rv bv lv vv W (hr.mono hW) (hv.mono hW) hf hrl hm (hl.mono hW) (hvv.mono hW)
  have KF := Lib.hid (fun (h : askI t ls vs u n lang = 0) W (hW : Grew w W) => refFound t vs u n lang rv bv vv W (askI_zero.1 h).1.1 (hr.mono hW) (hv.mono hW) (hvv.mono hW) (.inr (askI_zero.1 h).2.1))
  unfold foundR
  generalize hN : askI t ls vs u n lang = N at kA KF ⊢
  generalize foundF t.brs vs u n lang = o at KF ⊢
  have KA := Lib.hid kA
  obtain ⟨Ar, cr, rfl, -⟩ := hr.open_
  obtain ⟨Ab, cb, rfl, -⟩ := hv.open_
  clear kA hr hv hf hrl hm hl hvv hN
  have HB := Lib.hid (show ∀ W, Grew ((w.alloc (.cells [.slice Ar t.roots.length cr, .slice Ab t.brs.length cb].toArray 25)).alloc (.cells [.int .i64 0, .int .i64 0, .string ⟨#[]⟩, .string ⟨#[]⟩].toArray 29)) W → W.heap[w.heap.size]? = some (.cells #[.slice Ar t.roots.length cr, .slice Ab t.brs.length cb] 25 (0, 0)) ∧ W.heap[w.heap.size + 1]? = some (.cells #[.int .i64 0, .int .i64 0, .string ⟨#[]⟩, .string ⟨#[]⟩] 29 (0, 0)) from fun W g => by
    have e1 := heap_newI w (.cells [.slice Ar t.roots.length cr, .slice Ab t.brs.length cb].toArray 25)
    have e2 := heap_newI (w.alloc (.cells [.slice Ar t.roots.length cr, .slice Ab t.brs.length cb].toArray 25)) (.cells [.int .i64 0, .int .i64 0, .string ⟨#[]⟩, .string ⟨#[]⟩].toArray 29)
    rw [World.size_alloc] at e2
    exact ⟨heap_keepI (((Grew.refl _).alloc _).trans g) e1, heap_keepI g e2⟩)
  have GA := Lib.hid (((Grew.refl w).alloc (.cells [.slice Ar t.roots.length cr, .slice Ab t.brs.length cb].toArray 25)).alloc (.cells [.int .i64 0, .int .i64 0, .string ⟨#[]⟩, .string ⟨#[]⟩].toArray 29))
  by_cases hz : N = 0
  · subst hz
    rw [if_pos rfl]
    have kf := KF.out rfl
    unfold RetV at kf
    unfold RetVE
    generalize o.isSome = s at kf ⊢
    generalize o.getD val0 = x at kf ⊢
    obtain ⟨xu, xe, xl, xt⟩ := x
    unfold Val.agg at kf ⊢
    dsimp only at kf ⊢
    have KFX := Lib.hid kf
    clear kf KF
    go_enter Tryz.func67, Tryz.ntmps67
    go_wp2_with fail
    generalize (w.alloc (.cells [.slice Ar t.roots.length cr, .slice Ab t.brs.length cb].toArray 25)).alloc (.cells [.int .i64 0, .int .i64 0, .string ⟨#[]⟩, .string ⟨#[]⟩].toArray 29) = WA at GA HB ⊢
    refine (KA.out _ GA.out).mono ?_
    rintro e w1 ⟨rfl, g1⟩
    have G1 := Lib.hid g1
    have HG1 := Lib.hid (GA.out.trans G1.out)
    clear g1 KA
    obtain ⟨x0, x1⟩ := two_cells (HB.out w1 G1.out).1
    obtain ⟨⟨q0, q1, q2, q3⟩, z0, z1, z2, z3⟩ := four_cells (HB.out w1 G1.out).2
    dsimp only
    go_wp2_with fail
    refine (KFX.out _ HG1.out).mono ?_
    rintro e w2 ⟨rfl, g2⟩
    have G2 := Lib.hid (G1.out.trans (g2.alloc (.cells #[.int .i64 xu, .int .i64 xe, .string xl, .string xt] 29)))
    have HG2 := Lib.hid (GA.out.trans G2.out)
    clear x0 x1 q0 q1 q2 q3 z0 z1 z2 z3 g2
    obtain ⟨⟨q0, q1, q2, q3⟩, z0, z1, z2, z3⟩ := four_cells (HB.out _ G2.out).2
    dsimp only
    go_wp2_with fail
    obtain ⟨p0, p1, p2, p3⟩ := res_four (v0 := .int .i64 xu) (v1 := .int .i64 xe) (v2 := .string xl) (v3 := .string xt) q0 q1 q2 q3
    refine bodyPost_ret (v := .tuple #[.agg #[.int .i64 xu, .int .i64 xe, .string xl, .string xt], .bool s, .int .i64 0]) (by simp [results, Tryz.results67, go_sem, p0, p1, p2, p3]) rfl ?_
    exact ⟨rfl, grew_four HG2.out (by omega) _ _ _ _⟩
  · rw [if_neg hz]
    have hb : (N != 0) = true := by simpa using hz
    clear KF hz
    unfold RetVE
    go_enter Tryz.func67, Tryz.ntmps67
    go_wp2_with fail
    generalize (w.alloc (.cells [.slice Ar t.roots.length cr, .slice Ab t.brs.length cb].toArray 25)).alloc (.cells [.int .i64 0, .int .i64 0, .string ⟨#[]⟩, .string ⟨#[]⟩].toArray 29) = WA at GA HB ⊢
    refine (KA.out _ GA.out).mono ?_
    rintro e w1 ⟨rfl, g1⟩
    have G1 := Lib.hid g1
    have HG1 := Lib.hid (GA.out.trans G1.out)
    clear g1 KA
    obtain ⟨x0, x1⟩ := two_cells (HB.out w1 G1.out).1
    obtain ⟨⟨q0, q1, q2, q3⟩, z0, z1, z2, z3⟩ := four_cells (HB.out w1 G1.out).2
    dsimp only
    go_wp2_with fail
    obtain ⟨p0, p1, p2, p3⟩ := res_four (v0 := .int .i64 0) (v1 := .int .i64 0) (v2 := .string ⟨#[]⟩) (v3 := .string ⟨#[]⟩) q0 q1 q2 q3
    refine bodyPost_ret (v := .tuple #[.agg #[.int .i64 0, .int .i64 0, .string ⟨#[]⟩, .string ⟨#[]⟩], .bool false, .int .i64 N]) (by simp [results, Tryz.results67, go_sem, p0, p1, p2, p3]) rfl ?_
    exact ⟨rfl, grew_four HG1.out (by omega) _ _ _ _⟩
end Go.Proofs.YtjaknioojpgkiaaGreatDoor

/- tree.known on any tree, orTop, kids, Kids, walked. The conditions: the library's own variables hold what they must; the lists are short. -/
namespace Go.Proofs.YtjaknioojpgkiaaGreatDoor
open Go.RowKit

def RetIs (r : List Int × Int) (w : World) (e : Ending) (w' : World) : Prop := ∃ v, e = .returned (.tuple #[v, .int .i64 r.2]) ∧ SlI w' v r.1 ∧ Grew w w'
end Go.Proofs.YtjaknioojpgkiaaGreatDoor

/- tree.walk: what its recursive closure does, by induction on how far down the tree goes. The conditions: the tree is right; the rounds write one box and the row behind it alone. -/
namespace Go.Proofs.YtjaknioojpgkiaaGreatDoor
open Go.RowKit Go.Shelf

attribute [local go_sem] Oper.semAt_some

theorem room_free {F : Fence} (hd : F.depth = none) (k : Nat) : F.room k := fun d h => by rw [hd] at h; cases h
theorem roundFree {F : Fence} (hd : F.depth = none) {m m' : Nat} {P : Program} {l : Nat} {f : FuncId} {tmps : Array Value} {assign body : Code} {w : World} {R : Ending → World → Prop}
    (h : RoundIn F m P l f tmps assign body w R) : RoundIn F m' P l f tmps assign body w R := ⟨h.1, fun c cs _ => h.2 c cs (room_free hd _)⟩
theorem yieldFree {F : Fence} (hd : F.depth = none) {m : Nat} (m' : Nat) {P : Program} {l : Nat} {args : Array Value} {W : World} {R : Ending → World → Prop} (h : YieldAt F m P l args W R) : YieldAt F m' P l args W R := by
  obtain ⟨fn, tmps, assign, body, hy, hR⟩ := h
  exact ⟨fn, tmps, assign, body, hy, roundFree hd hR⟩

/-- All blocks of cells stay but block B and the row to which it leads. -/
structure KpO (B : Nat) (W W' : World) : Prop where
  size : W.heap.size ≤ W'.heap.size
  block : ∀ k o, W.heap[k]? = some o → o.isCells = true → k ≠ B → (∀ v, W.cell? ⟨B, 0, none⟩ = some v → v.ownBlock ≠ some k) → W'.heap[k]? = some o
  row : ∀ v', W'.cell? ⟨B, 0, none⟩ = some v' → (∃ v, W.cell? ⟨B, 0, none⟩ = some v ∧ v.ownBlock = v'.ownBlock) ∨ ∀ b, v'.ownBlock = some b → W.heap.size ≤ b ∧ b < W'.heap.size
/-- Block B is there, and what it leads to is there. -/
def OutIn (B : Nat) (W : World) : Prop := B < W.heap.size ∧ ∀ v, W.cell? ⟨B, 0, none⟩ = some v → ∀ b, v.ownBlock = some b → b < W.heap.size
/-- Block k holds o, and is neither block B nor the row to which B leads. -/
def Prot (B : Nat) (W : World) (k : Nat) (o : Obj) : Prop := W.heap[k]? = some o ∧ o.isCells = true ∧ k ≠ B ∧ ∀ v, W.cell? ⟨B, 0, none⟩ = some v → v.ownBlock ≠ some k
def KpB (n₀ B : Nat) (W W' : World) : Prop := Below n₀ W W' ∧ KpO B W W'
section
variable {n₀ B k : Nat} {W W' W2 : World} {o : Obj}
theorem KpO.refl (B : Nat) (W : World) : KpO B W W := ⟨Nat.le_refl _, fun _ _ h _ _ _ => h, fun v' h => .inl ⟨v', h, rfl⟩⟩
theorem KpO.trans (h : KpO B W W') (j : KpO B W' W2) : KpO B W W2 := by
  refine ⟨Nat.le_trans h.size j.size, fun k o ho hc hne hr => ?_, fun v' hv' => ?_⟩
  · refine j.block k o (h.block k o ho hc hne hr) hc hne fun v' hv' hb => ?_
    have hk := (Array.getElem?_eq_some_iff.1 ho).1
    rcases h.row v' hv' with ⟨v, hv, e⟩ | h2
    · exact hr v hv (by rw [e]; exact hb)
    · have := (h2 k hb).1
      omega
  · rcases j.row v' hv' with ⟨v, hv, e⟩ | h2
    · rcases h.row v hv with ⟨u, hu, e2⟩ | h3
      · exact .inl ⟨u, hu, e2.trans e⟩
      · refine .inr fun b hb => ?_
        have h4 := h3 b (by rw [e]; exact hb)
        have := j.size
        omega
    · refine .inr fun b hb => ?_
      have h4 := h2 b hb
      have := h.size
      omega
theorem KpO.grew (hB : B < W.heap.size) (h : Grew W W') : KpO B W W' :=
  ⟨h.size, fun k o ho _ _ _ => by rw [h.block k (Array.getElem?_eq_some_iff.1 ho).1]; exact ho, fun v' hv' => .inl ⟨v', by rw [← h.cell hB]; exact hv', rfl⟩⟩
theorem OutIn.kp (h : OutIn B W) (j : KpO B W W') : OutIn B W' := by
  refine ⟨Nat.lt_of_lt_of_le h.1 j.size, fun v' hv' b hb => ?_⟩
  rcases j.row v' hv' with ⟨v, hv, e⟩ | h2
  · exact Nat.lt_of_lt_of_le (h.2 v hv b (by rw [e]; exact hb)) j.size
  · exact (h2 b hb).2
theorem Prot.kp (h : Prot B W k o) (j : KpO B W W') : Prot B W' k o := by
  obtain ⟨h1, h2, h3, h4⟩ := h
  refine ⟨j.block k o h1 h2 h3 h4, h2, h3, fun v' hv' hb => ?_⟩
  have hk := (Array.getElem?_eq_some_iff.1 h1).1
  rcases j.row v' hv' with ⟨v, hv, e⟩ | h5
  · exact h4 v hv (by rw [e]; exact hb)
  · have := (h5 k hb).1
    omega
theorem Prot.new (h : OutIn B W) (hc : o.isCells = true) : Prot B (W.alloc o) W.heap.size o := by
  refine ⟨World.alloc_heap_new W o, hc, by have := h.1; omega, fun v hv hb => ?_⟩
  have hv2 : W.cell? ⟨B, 0, none⟩ = some v := by rw [← hv]; exact (World.cell?_alloc_lt _ _ _ h.1).symm
  have := h.2 v hv2 _ hb
  omega
theorem Prot.cell {vs : Array Value} {t : TypeId} (h : Prot B W k (.cells vs t (0, 0))) (j : Nat) (v : Value) (hj : vs[j]? = some v) : W.cell? ⟨k, j, none⟩ = some v := by
  simp [World.cell?, h.1, hj]
theorem KpB.refl (n₀ B : Nat) (W : World) : KpB n₀ B W W := ⟨Below.refl _ _, KpO.refl _ _⟩
theorem KpB.trans (h : KpB n₀ B W W') (j : KpB n₀ B W' W2) : KpB n₀ B W W2 := ⟨h.1.trans j.1, h.2.trans j.2⟩
theorem KpB.grew (hB : B < W.heap.size) (hn : n₀ ≤ W.heap.size) (h : Grew W W') : KpB n₀ B W W' := ⟨h.below.mono hn, KpO.grew hB h⟩
end
end Go.Proofs.YtjaknioojpgkiaaGreatDoor

/- tree.walk's recursive closure: it hands on a unit and all that are below it. The conditions: the tree is right; the rounds write one box and the row behind it alone. -/
namespace Go.Proofs.YtjaknioojpgkiaaGreatDoor
open Go.RowKit Go.Shelf

attribute [local go_sem] Oper.semAt_some

/-- The boxes that the closure reads. -/
structure Boxes (B lp Yb Tb Vb : Nat) (rv bv : Value) (W : World) : Prop where
  y : ∃ t, Prot B W Yb (.cells #[.func (.yield lp) #[] #[]] t (0, 0))
  t : ∃ t, Prot B W Tb (.cells #[rv, bv] t (0, 0))
  v : ∃ t, Prot B W Vb (.cells #[.func (.func 144) #[] #[.pointer (some ⟨Yb, 0, none⟩), .pointer (some ⟨Tb, 0, none⟩), .pointer (some ⟨Vb, 0, none⟩)]] t (0, 0))
theorem Boxes.kp {B lp Yb Tb Vb : Nat} {rv bv : Value} {W W' : World} (h : Boxes B lp Yb Tb Vb rv bv W) (j : KpO B W W') : Boxes B lp Yb Tb Vb rv bv W' :=
  ⟨h.y.imp fun _ p => p.kp j, h.t.imp fun _ p => p.kp j, h.v.imp fun _ p => p.kp j⟩
/-- What holds behind i children. -/
def VisR (B lp Yb Tb Vb : Nat) (rv bv : Value) (w0 W : World) (above : Int) (pre : List (Int × Int)) (J : List (Int × Int) → World → Prop) (ks : List Int) (g : Int → List Int) (i : Nat) (W' : World) : Prop :=
  Boxes B lp Yb Tb Vb rv bv W' ∧ OutIn B W' ∧ Prot B W' W.heap.size (.cells #[.int .i64 above] 3 (0, 0)) ∧ Grew w0 W' ∧ KpB w0.heap.size B W W' ∧ ∃ ys : List (Int × Int), ys.map Prod.fst = (ks.take i).flatMap g ∧ J (pre ++ ys) W'
theorem VisR.grew {B lp Yb Tb Vb : Nat} {rv bv : Value} {w0 W W' : World} {above : Int} {pre : List (Int × Int)} {J : List (Int × Int) → World → Prop} {ks : List Int} {g : Int → List Int} {i : Nat} (h : VisR B lp Yb Tb Vb rv bv w0 W above pre J ks g i W') : Grew w0 W' := h.2.2.2.1
end Go.Proofs.YtjaknioojpgkiaaGreatDoor
