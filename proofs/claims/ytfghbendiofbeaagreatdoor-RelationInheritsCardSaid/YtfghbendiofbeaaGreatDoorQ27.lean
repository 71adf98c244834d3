/- Lemmas on what the functions of the program and of the library compute: IsS, LBoth, PlainY, DelR, F2, App4. The conditions stand at each. -/
import Derived.Test.YtfghbendiofbeaaGreatDoorProg
import Derived.Test.YtfghbendiofbeaaGreatDoorQ2
import Derived.Test.YtfghbendiofbeaaGreatDoorQ10
import Derived.Test.YtfghbendiofbeaaGreatDoorQ24
import Derived.Test.YtfghbendiofbeaaGreatDoorQ26
import Derived.Test.YtfghbendiofbeaaGreatDoorQ16
import Derived.Test.YtfghbendiofbeaaGreatDoorQ22
import Derived.Test.YtfghbendiofbeaaGreatDoorQ1
import Derived.Test.YtfghbendiofbeaaGreatDoorQ5
import Derived.Test.YtfghbendiofbeaaGreatDoorQ25
import Derived.Test.YtfghbendiofbeaaGreatDoorQ12
/- slices.IsSorted at numbers that ascend, and cmp.Less. No condition. -/
namespace Go.Proofs.YtfghbendiofbeaaGreatDoor
open Go.RowKit

theorem isNaNI (x : Int) (w : World) : Calls Tryz.prog 107 #[.int .i64 x] w fun e w' => e = .returned (.bool false) ∧ w = w' := by
  go_enter Tryz.func107, Tryz.ntmps107
  go_wp2
  go_ret
  exact ⟨by simp, rfl⟩
theorem cmpLessI (x y : Int) (w : World) : Calls Tryz.prog 77 #[.int .i64 x, .int .i64 y] w fun e w' => e = .returned (.bool (decide (x < y))) ∧ w = w' := by
  go_enter Tryz.func77, Tryz.ntmps77
  go_wp2_with (go_at_call 107; refine (isNaNI _ _).mono ?_; rintro e w' ⟨rfl, rfl⟩)
  go_ret
  exact ⟨by simp, rfl⟩
set_option maxHeartbeats 2000000 in
/-- Numbers that ascend are sorted. -/
theorem isSortedI (l : List Int) (v : Value) (w : World) (hv : SlI w v l) (hA : Asc l) : Calls Tryz.prog 35 #[v] w fun e w' => e = .returned (.bool true) ∧ Grew w w' := by
  obtain ⟨A, c, rfl, hlc, hc, hr⟩ := hv.open_
  unfold maxLen at hc
  have HR := Lib.hid hr
  have HAs := Lib.hid (fun i j (hi : i < l.length) (hj : j < l.length) (h : i < j) => List.pairwise_iff_getElem.1 hA i j hi hj h)
  clear hr hv hA
  go_enter Tryz.func35, Tryz.ntmps35
  go_wp2
  go_loopg [3] l.length (fun gg s wr => ∃ k : Nat, k ≤ l.length ∧ k ≤ gg ∧ s = .int .i64 ((k : Int) - 1) ∧ Aside (Grew w wr))
  case atStart => exact ⟨l.length, by omega, by omega, rfl, (show Aside _ from Grew.refl _)⟩
  case round =>
    obtain ⟨k, hk, hgk, rfl, BW⟩ := hrel
    by_cases hlt : 1 < k
    · obtain ⟨m, rfl⟩ : ∃ m, k = m + 2 := ⟨k - 2, by omega⟩
      have hz : (((m + 2 : Nat) : Int) - 1) = ((m + 1 : Nat) : Int) := by omega
      rw [hz]
      clear hz
      have hpos : (0 : Int) < ((m + 1 : Nat) : Int) := by omega
      have h0z : (0 : Int) ≤ ((m + 1 : Nat) : Int) := by omega
      have hltz : ((m + 1 : Nat) : Int) < (l.length : Int) := by omega
      have hs : IntKind.i64.wrap (((m + 1 : Nat) : Int) - 1) = (m : Int) := by rw [IntWalk.i64_in _ (by omega)]; omega
      have h0m : (0 : Int) ≤ (m : Int) := by omega
      have hltm : (m : Int) < (l.length : Int) := by omega
      obtain ⟨b, off, rfl, hb, hcell⟩ := HR.out (by omega)
      have f0 := Gr.cell (hcell wr BW.out (m + 1) (by omega))
      have f1 := Gr.cell (hcell wr BW.out m (by omega))
      have hlt1 := HAs.out m (m + 1) (by omega) (by omega) (by omega)
      generalize l[m + 1] = y at f0 hlt1
      generalize l[m] = x at f1 hlt1
      have hd : decide (y < x) = false := by simp; omega
      clear hcell
      go_wp2
      refine region_gr wr (by kernel_rfl) (by kernel_rfl) (Grew.refl _) ?_
      repeat (first | go_big_quiet_step ((exact Gr.same _ (cmpLessI _ _ _))) | quiet_step ((exact Gr.same _ (cmpLessI _ _ _))))
      refine wpQuiet_nil ?_
      intro _ hw'
      obtain ⟨wi, rfl⟩ := hw'
      have HWI := Lib.hid wi.g
      clear f0 f1 hs
      go_wp2
      go_roundg (m + 1)
      case measure => omega
      case rel => exact ⟨m + 1, by omega, by omega, by go_num, (show Aside _ from BW.out.trans HWI.out)⟩
    · have hltz : ¬ (0 : Int) < (k : Int) - 1 := by omega
      go_wp2
      go_ret
      exact ⟨rfl, BW.out⟩
end Go.Proofs.YtfghbendiofbeaaGreatDoor

/- The statement on holders and units, walked: it returns true at every input and changes no block that lay before. The condition: the library's own variables hold what they must. -/
namespace Go.Proofs.YtfghbendiofbeaaGreatDoor
open Go.RowKit

def YesG (w : World) (e : Ending) (w' : World) : Prop := e = .returned (.bool true) ∧ Grew w w'
/-- The copies that are handed to the program. -/
def CopyEnd (l : List Auth) (w : World) (e : Ending) (w' : World) : Prop := ∃ v, e = .returned v ∧ SlAu w' v l ∧ Grew w w'
theorem copyG (l : List Auth) (v : Value) (w : World) (hv : SlAu w v l) (hf : FewA l) : Calls Tryz.prog 14 #[v] w (CopyEnd l w) := copy23 l v w hv hf.au (by have := hf.1; omega)
def CloneEnd (l : List Rel) (w : World) (e : Ending) (w' : World) : Prop := ∃ v, e = .returned v ∧ SlR w' v l ∧ Grew w w'
theorem cloneG (l : List Rel) (v : Value) (w : World) (hv : SlR w v l) (hf : l.length ≤ 257) : Calls Tryz.prog 15 #[v] w (CloneEnd l w) :=
  (cloneR l v w hv (by omega)).mono fun _ _ ⟨v', he, ho, hg⟩ => ⟨v', he, Rd.of_own ho, hg⟩
set_option maxHeartbeats 8000000 in
set_option maxRecDepth 100000 in
theorem both_walk (a : List Auth) (l : List Rel) (unit id day : Int) (av lv : Value) (w : World) (hE : Env w) (ha : SlAu w av a) (hl : SlR w lv l) :
    Calls Tryz.prog 9 #[av, lv, .int .i64 unit, .int .i64 id, .int .i64 day] w (YesG w) := by
  have KF := Lib.hid (fun W (hW : Grew w W) => few26_any a l av lv W (ha.mono hW) (hl.mono hW))
  have HE := Lib.hid hE
  have HA := Lib.hid ha
  have HL := Lib.hid hl
  clear hE ha hl
  go_enter Tryz.func9, Tryz.ntmps9
  go_wp2_with fail
  refine (awake26 _ HE.out).mono ?_
  rintro e w1 ⟨rfl, g1⟩
  have G1 := Lib.hid g1
  clear g1
  dsimp only
  go_wp2_with fail
  refine (KF.out _ G1.out).mono ?_
  rintro e w2 ⟨q, rfl, hq, g2⟩
  have G2 := Lib.hid (G1.out.trans g2)
  have HQ := Lib.hid hq
  clear g2 hq
  dsimp only
  cases q
  case false =>
    go_wp2_with fail
    refine (awake26 _ (HE.out.mono G2.out)).mono ?_
    rintro e w3 ⟨rfl, g3⟩
    dsimp only
    go_wp2
    go_ret
    exact ⟨rfl, G2.out.trans g3⟩
  obtain ⟨hfa, hll⟩ := HQ.out (by first | rfl | trivial)
  have HFA := Lib.hid hfa
  clear hfa HQ
  go_wp2_with fail
  refine (copyG a av _ (HA.out.mono G2.out) HFA.out).mono ?_
  rintro e w3 ⟨v3, rfl, s3, g3⟩
  have G3 := Lib.hid (G2.out.trans g3)
  have S3 := Lib.hid s3
  clear s3 g3
  dsimp only
  go_wp2_with fail
  refine (cloneG l lv _ (HL.out.mono G3.out) hll).mono ?_
  rintro e w4 ⟨v4, rfl, s4, g4⟩
  have G4 := Lib.hid (G3.out.trans g4)
  have S3' := Lib.hid (S3.out.mono g4)
  have S4 := Lib.hid s4
  clear s4 g4 S3
  dsimp only
  have hok := @units_ok a l id day
  have hbad := @units_bad a l id day
  have kU := rUnits a l id day v3 v4 w4 (HE.out.mono G4.out) S3'.out HFA.out.au S4.out (by omega)
  generalize unitsF a l id day = U at kU hok hbad
  obtain ⟨us, ue⟩ := U
  dsimp only at kU hok hbad
  have KU := Lib.hid kU
  have HOK := Lib.hid hok
  have HBAD := Lib.hid hbad
  clear kU hok hbad
  go_wp2_with fail
  refine KU.out.mono ?_
  rintro e w5 ⟨v5, rfl, s5, g5⟩
  dsimp only at s5
  have G5 := Lib.hid (G4.out.trans g5)
  have S5 := Lib.hid s5
  clear g5 S3' S4 KU
  dsimp only
  by_cases hue : ue = 0
  case neg =>
    have hue' : (ue != 0) = true := by simpa using hue
    have hus := HBAD.out hue
    subst hus
    obtain ⟨A5, c5, rfl, -, -, -⟩ := s5.open_
    clear hue s5
    go_wp2
    go_ret
    exact ⟨rfl, G5.out⟩
  subst hue
  clear s5
  obtain ⟨hR, hd0, hd1, hUe⟩ := HOK.out rfl
  obtain rfl : us = Lib.compact (unitsIn l id day) := (Prod.mk.inj hUe).1
  have HR := Lib.hid hR
  have HB := Lib.hid (both_law hR unit id day)
  clear hR hUe HOK HBAD
  go_wp2
  go_loopg [13, 14] 4 (fun gg s13 s14 wr => ∃ k : Nat, k ≤ 4 ∧ 4 - k ≤ gg ∧ s14 = .int .i64 ((k : Int) + 1) ∧ s13 = .bool (holdsUp l unit id day k) ∧ Aside (Grew w5 wr))
  case atStart => exact ⟨0, by omega, by omega, rfl, rfl, (show Aside _ from Grew.refl _)⟩
  case round =>
    obtain ⟨k, hk, hgk, rfl, rfl, BW⟩ := hrel
    have GW := Lib.hid (G5.out.trans BW.out)
    by_cases hlt : k < 4
    · have hle : (k : Int) + 1 ≤ 4 := by omega
      have HN := Lib.hid (holdsUp_succ l unit id day k)
      generalize hNX : holdsUp l unit id day (k + 1) = NX at HN
      have HNX := Lib.hid hNX
      clear hNX
      generalize holdsUp l unit id day k = q at HN ⊢
      go_wp2_with fail
      refine (copyG a av _ (HA.out.mono GW.out) HFA.out).mono ?_
      rintro e w6 ⟨v6, rfl, s6, g6⟩
      have G6 := Lib.hid (BW.out.trans g6)
      have S6 := Lib.hid s6
      clear s6 g6
      dsimp only
      go_wp2_with fail
      refine (cloneG l lv _ (HL.out.mono (G5.out.trans G6.out)) hll).mono ?_
      rintro e w7 ⟨v7, rfl, s7, g7⟩
      have G7 := Lib.hid (G6.out.trans g7)
      have S6' := Lib.hid (S6.out.mono g7)
      have S7 := Lib.hid s7
      clear s7 g7 S6
      dsimp only
      have kH := rHolders a l unit ((k : Int) + 1) day v6 v7 w7 (HE.out.mono (G5.out.trans G7.out)) S6'.out HFA.out.au S7.out (by omega)
      rw [holders_ok HR.out hd0 hd1 (by omega) hle] at kH
      have hasc := holdersF_asc l unit ((k : Int) + 1) day
      generalize holdersF l unit ((k : Int) + 1) day = HF at kH hasc HN
      have KH := Lib.hid kH
      have HASC := Lib.hid hasc
      clear kH hasc
      go_wp2_with fail
      refine KH.out.mono ?_
      rintro e w8 ⟨v8, rfl, s8, g8⟩
      have G8 := Lib.hid (G7.out.trans g8)
      have S8 := Lib.hid s8
      clear s8 g8 KH S6' S7
      dsimp only
      go_wp2_with fail
      refine (isSortedI HF v8 _ S8.out HASC.out).mono ?_
      rintro e w9 ⟨rfl, g9⟩
      have G9 := Lib.hid (G8.out.trans g9)
      have S9 := Lib.hid (S8.out.mono g9)
      clear g9 S8
      dsimp only
      cases q
      · go_wp2_with fail
        refine (containsI HF id v8 _ S9.out).mono ?_
        rintro e w10 ⟨rfl, rfl⟩
        dsimp only
        go_wp2
        go_roundg (4 - (k + 1))
        case measure => omega
        case rel => exact ⟨k + 1, by omega, by omega, by go_num, by rw [HNX.out, HN.out, Bool.false_or], (show Aside _ from G9.out)⟩
      · go_wp2
        go_roundg (4 - (k + 1))
        case measure => omega
        case rel => exact ⟨k + 1, by omega, by omega, by go_num, by rw [HNX.out, HN.out, Bool.true_or], (show Aside _ from G9.out)⟩
    · have hle : ¬ (k : Int) + 1 ≤ 4 := by omega
      obtain rfl : k = 4 := by omega
      rw [HB.out]
      go_wp2_with fail
      refine (containsI _ unit v5 _ (S5.out.mono BW.out)).mono ?_
      rintro e w10 ⟨rfl, rfl⟩
      dsimp only
      go_wp2
      go_ret
      exact ⟨by simp, GW.out⟩
end Go.Proofs.YtfghbendiofbeaaGreatDoor

/- What the statements on adding and ending ask, plainly. No condition. -/
namespace Go.Proofs.YtfghbendiofbeaaGreatDoor
open Go.RowKit

theorem findBad_ok (f : Nat → Int) : ∀ n i, (findBad f n i).2 = 0 → findBad f n i = (-1, 0)
  | 0, _, _ => rfl
  | n + 1, i, h => by
    unfold findBad at h ⊢
    split
    · rename_i h0
      rw [if_pos h0] at h
      exact findBad_ok f n (i + 1) h
    · rename_i h0
      rw [if_neg h0] at h
      exact absurd h h0
theorem relCheck_ok {a : List Auth} {l : List Rel} (h : RightR a l) : relCheck a l = (-1, 0) := by
  have h2 := (relCheck_right a l).2 h
  unfold relCheck at h2 ⊢
  split
  · rename_i h0; rw [if_pos h0] at h2; simp at h2
  · rename_i h0
    rw [if_neg h0] at h2
    split
    · rename_i h1; rw [if_pos h1] at h2; simp at h2
    · rename_i h1; rw [if_neg h1] at h2; exact findBad_ok _ _ _ h2
theorem holders_of {a : List Auth} {l : List Rel} (hR : RightR a l) (u r d : Int) : holdersR a l u r d = if rangedF r d = 0 then (holdersF l u r d, 0) else ([], rangedF r d) := by
  have ha : asksF a l = 0 := asks_right.2 hR
  unfold holdersR
  rw [ha]
  by_cases h : rangedF r d = 0
  · rw [if_pos h, h, if_neg (by simp [orF])]
  · rw [if_neg h]
    have : orF [0, rangedF r d] = rangedF r d := by simp [orF, h]
    rw [this, if_pos h]
theorem add_ok {a : List Auth} {l : List Rel} {x : Rel} (h : (addR a l x).2 = 0) : RightR a l ∧ RightR a (insR l x) ∧ l.any (meetsR x) = false ∧ addR a l x = (insR l x, 0) := by
  unfold addR at h ⊢
  by_cases h0 : asksF a l = 0
  case neg => rw [if_pos h0] at h; exact absurd h h0
  rw [if_neg (by simpa using h0)] at h ⊢
  by_cases h1 : relAlone a x = 0
  case neg => rw [if_pos h1] at h; exact absurd h h1
  rw [if_neg (by simpa using h1)] at h ⊢
  by_cases h2 : l.any (meetsR x) = true
  · rw [if_pos h2] at h; simp at h
  rw [if_neg h2] at h ⊢
  by_cases h3 : 256 ≤ l.length
  · rw [if_pos h3] at h; simp at h
  rw [if_neg h3]
  have hR := asks_right.1 h0
  have hm : l.any (meetsR x) = false := by simpa using h2
  exact ⟨hR, add_right hR h1 hm (by omega), hm, rfl⟩
theorem add_bad {a : List Auth} {l : List Rel} {x : Rel} (h : (addR a l x).2 ≠ 0) : (addR a l x).1 = [] := by
  unfold addR at h ⊢
  split
  · rfl
  · split
    · rfl
    · split
      · rfl
      · split
        · rfl
        · rename_i h0 h1 h2 h3
          rw [if_neg h0, if_neg h1, if_neg h2, if_neg h3] at h
          exact absurd rfl h
theorem any_eq_mem (l : List Int) (x : Int) : (l.any fun y => (x == y)) = decide (x ∈ l) := by
  rw [Bool.eq_iff_iff]
  simp
theorem relOn_b (u r d : Int) (x : Rel) : relOn u r d x = decide (u = x.unit ∧ r = x.role ∧ x.fr ≤ d ∧ d < x.un) := by
  rw [Bool.eq_iff_iff, relOn_t, decide_eq_true_eq]
  constructor
  · rintro ⟨h1, h2, h3, h4⟩; exact ⟨h1.symm, h2.symm, h3, h4⟩
  · rintro ⟨h1, h2, h3, h4⟩; exact ⟨h1.symm, h2.symm, h3, h4⟩
theorem end_ok {a : List Auth} {l : List Rel} {x : Rel} {day : Int} (h : (endR a l x day).2 = 0) : RightR a l ∧ ∃ k, l[k]? = some x ∧ x.fr < day ∧ day ≤ x.un ∧ RightR a (l.set k (cutR x day)) ∧ endR a l x day = (l.set k (cutR x day), 0) := by
  unfold endR at h ⊢
  by_cases h0 : asksF a l = 0
  case neg => rw [if_pos h0] at h; exact absurd h h0
  rw [if_neg (by simpa using h0)] at h ⊢
  by_cases h1 : l[placeR l x]? = some x
  case neg => rw [if_pos h1] at h; simp at h
  rw [if_neg (by simpa using h1)] at h ⊢
  by_cases h2 : day ≤ x.fr ∨ x.un < day
  · rw [if_pos h2] at h; simp at h
  rw [if_neg h2]
  rw [not_or] at h2
  have hR := asks_right.1 h0
  exact ⟨hR, _, h1, by omega, by omega, end_right hR h1 (by omega) (by omega), rfl⟩
theorem end_bad {a : List Auth} {l : List Rel} {x : Rel} {day : Int} (h : (endR a l x day).2 ≠ 0) : (endR a l x day).1 = [] := by
  unfold endR at h ⊢
  split
  · rfl
  · split
    · rfl
    · split
      · rfl
      · rename_i h0 h1 h2
        rw [if_neg h0, if_neg h1, if_neg h2] at h
        exact absurd rfl h
end Go.Proofs.YtfghbendiofbeaaGreatDoor

/- slices.DeleteFunc at numbers, on a row of the call's own. No condition but that the function that is handed over answers as p does. -/
namespace Go.Proofs.YtfghbendiofbeaaGreatDoor
open Go.RowKit

set_option maxHeartbeats 2000000 in
/-- slices.DeleteFunc at Int, on a row of the call's own. -/
theorem deleteFuncI (l : List Int) (p : Int → Bool) (gf : Nat) (lb : Array Value) (eg : ∀ args w, (callFunc gf args).run Tryz.prog w = .ok (.enter gf args) w) (base : Nat) (v : Value) (w : World) (hbase : base ≤ w.heap.size)
    (hown : w.ownsRow base 3 1 v l.length (l.flatMap oneI))
    (hp : ∀ W x, Below base w W → x ∈ l → Calls Tryz.prog gf (#[(.int .i64 x)] ++ lb) W fun e w' => e = .returned (.bool (p x)) ∧ Grew W w') :
    Calls Tryz.prog 33 #[v, .func (.func gf) #[] lb] w fun e w' => ∃ v', e = .returned v' ∧ w'.ownsRow base 3 1 v' (l.filter fun x => !p x).length ((l.filter fun x => !p x).flatMap oneI) ∧ Below base w w' := by
  have hix := indexFuncI l p gf lb eg v w (Rd.of_own hown) (fun W x hW hx => hp W x (hW.below.mono hbase) hx)
  by_cases hany : l.any p = true
  case neg =>
    simp only [Bool.not_eq_true] at hany
    have hid : l.filter (fun x => !p x) = l := List.filter_eq_self.2 (fun x hx => by
      rw [List.any_eq_false] at hany
      simpa using hany x hx)
    have hm : idxP p l = -1 := idxP_miss p l (fun i hi => by
      rw [List.any_eq_false] at hany
      simpa using hany l[i] (List.getElem_mem hi))
    rw [hid]
    rw [hm] at hix
    have HX := Lib.hid hix
    have HO := Lib.hid hown
    generalize l.flatMap oneI = cs at HO ⊢
    clear hix hown hp hid hm hany
    go_enter Tryz.func33, Tryz.ntmps33
    go_wp2_with (first | (go_at_call 76; refine HX.out.mono ?_; rintro e w1 ⟨rfl, hg⟩))
    go_ret
    exact ⟨v, rfl, own_later HO.out hg, hg.below.mono hbase⟩
  case pos =>
    obtain ⟨m, hm, hpm, hbef⟩ := idxP_find p l hany
    have he : idxP p l = (m : Int) := idxP_hit p l m hm hpm hbef
    rw [he] at hix
    obtain ⟨g, cap, hv, hbg, hglt, hcap⟩ := own_form hown (by omega)
    subst hv
    have hcm : cap ≤ maxLen := own_max hown
    unfold maxLen at hcm
    have DI0 : DelInv 1 oneI l (fun x => !p x) (l.flatMap oneI) m (m + 1) := DelInv.start (f := oneI) (fun _ => rfl) m hm (by simp [hpm]) (fun t ht h => by simp [hbef t ht h])
    have HX := Lib.hid hix
    have HO := Lib.hid hown
    have HP := Lib.hid hp
    have HD := Lib.hid DI0
    have hneg : ((m : Int) == -1) = false := beq_eq_false_iff_ne.2 (by omega)
    clear hix hown hp DI0 he hpm hbef hany
    go_enter Tryz.func33, Tryz.ntmps33
    go_wp2_with (first | (go_at_call 76; refine HX.out.mono ?_; rintro e w1 ⟨rfl, hg⟩))
    go_loopg [5, 6] l.length (fun gg s5 s6 wr => ∃ ii jj : Nat, ii < jj ∧ jj ≤ l.length ∧ l.length - jj ≤ gg ∧ s5 = .int .i64 ii ∧ s6 = .int .i64 jj ∧ Aside (Below base w wr) ∧ Aside (∃ ds, wr.ownsRow base 3 1 (.slice (some ⟨g, 0, none⟩) l.length cap) l.length ds ∧ DelInv 1 oneI l (fun x => !p x) ds ii jj))
    case atStart => exact ⟨m, m + 1, by omega, by omega, by omega, rfl, by go_num, hg.below.mono hbase, _, own_later HO.out hg, HD.out⟩
    case round =>
      obtain ⟨ii, jj, hij, hjl, hgk, rfl, rfl, BW, hds⟩ := hrel
      obtain ⟨ds, ho, DI0⟩ := hds.out
      have DI := Lib.hid DI0
      clear hds DI0
      by_cases hlt : jj < l.length
      · have hltz : (jj : Int) < (l.length : Int) := by omega
        have c0 : wr.cell? ⟨g, jj, none⟩ = some (.int .i64 l[jj]) := by
          have h1 := ho.cellAt (jj * 1 + 0) (by omega)
          have h2 := DelInv.at_ (f := oneI) DI.out (fun _ => rfl) hlt 0 (by omega)
          rw [h2] at h1
          simpa [oneI] using h1
        have hcall := HP.out wr l[jj] BW.out (List.getElem_mem hlt)
        have HOr := Lib.hid ho
        have Hlt := Lib.hid hlt
        generalize hy : l[jj] = y at c0 hcall
        have B : Aside (l[jj] = y) := hy
        clear hy ho
        cases hq : p y with
        | true =>
          have Hq : Aside (p y = true) := hq
          rw [hq] at hcall
          go_wp2_with (go_at_fn gf; refine hcall.mono ?_; rintro e w' ⟨rfl, hb'⟩)
          go_roundg (l.length - (jj + 1))
          case measure => omega
          case rel => exact ⟨ii, jj + 1, by omega, by omega, by omega, rfl, by go_num, (show Aside _ from BW.out.trans (hb'.below.mono (Nat.le_trans hbase BW.out.size))), (show Aside _ from ⟨ds, own_later HOr.out hb', DI.out.skip Hlt.out (by have h : l[jj]'Hlt.out = y := B.out; rw [h, Hq.out]; rfl)⟩)⟩
        | false =>
          have Hq : Aside (p y = false) := hq
          rw [hq] at hcall
          go_wp2_with fail
          refine hcall.mono ?_
          rintro e w' ⟨rfl, hb'⟩
          have ho' := own_later HOr.out hb'
          obtain ⟨u0, _, hu0⟩ := own_cell ho' ii (by omega)
          have hf0 := ho'.frozenAt ii
          have HO' := Lib.hid ho'
          clear ho'
          go_wp2
          obtain ⟨ds1, hD1, hG1, hL1, hA1, hB1⟩ := own_setCells (oneI y) (ii * 1) w' ds HO'.out
          go_roundg (l.length - (jj + 1))
          case measure => omega
          case rel =>
            have hyj : l[jj]'Hlt.out = y := B.out
            have hbw : Below base w w' := BW.out.trans (hb'.below.mono (Nat.le_trans hbase BW.out.size))
            refine ⟨ii + 1, jj + 1, by omega, by omega, by omega, by go_num, by go_num, (show Aside _ from ?_), (show Aside _ from ⟨ds1, ?_, ?_⟩)⟩
            · exact hbw.setCell (p := ⟨g, ii, none⟩) hbg _
            · simpa [oneI, World.setCells] using hD1
            · exact DelInv.keep (f := oneI) DI.out (fun _ => rfl) Hlt.out (by rw [hyj, Hq.out]; rfl) hL1 (by rw [hyj]; exact hA1) (by rw [hyj]; exact hB1)
      · have hje : jj = l.length := by omega
        subst hje
        have hii : ¬ cap = ii := by omega
        have hgt : (ii : Int) ≤ (l.length : Int) := by omega
        obtain ⟨w2, ds2, hrun, ho2, hg2, ha2⟩ := run_clear_own (P := Tryz.prog) wr 43 3 0 (.int .i64 0) 1 Tryz.underlying43 Tryz.zeroValue3 rfl (by omega) (by simp [Value.cells, Value.oneCell']) ho ii (cap - ii) hij
        have hrun' : ∀ ty, (Builtin.clear_ #[43] ty #[.slice (some ⟨g, ii, none⟩) (l.length - ii) (cap - ii)]).run Tryz.prog wr = .ok (.tuple #[]) w2 := fun _ => by have h := hrun; rw [Nat.mul_one] at h; exact h
        have Ho2 := Lib.hid ho2
        have Ha2 := Lib.hid ha2
        clear ho2 ha2 hrun ho
        go_wp2
        go_ret
        obtain ⟨e1, e2⟩ := DelInv.done (f := oneI) DI.out (fun _ => rfl) Ha2.out
        have hc2 := own_cut Ho2.out ii (by omega)
        rw [e1] at hc2
        refine ⟨_, rfl, ?_, Below.grown BW.out hg2 (Nat.le_trans hbase BW.out.size) (fun k hk => by cases hk; exact hbg)⟩
        rw [← e2]
        exact hc2

end Go.Proofs.YtfghbendiofbeaaGreatDoor

/- The bound on sizes of trees (the verifier's Few), walked: where it says yes, the lists are short. No condition. -/
namespace Go.Proofs.YtfghbendiofbeaaGreatDoor
open Go.RowKit

def FewT (rs : List Int) (br : List Br) : Prop := rs.length ≤ 20 ∧ br.length ≤ 257 ∧ ∀ i (h : i < br.length), br[i].kids.length ≤ 20
theorem FewT.br {rs : List Int} {br : List Br} (h : FewT rs br) : FewBr br := ⟨by have := h.2.1; omega, fun i hi => by have := h.2.2 i hi; omega⟩
theorem FewT.rs {rs : List Int} {br : List Br} (h : FewT rs br) : rs.length ≤ 1000000 := by have := h.1; omega
set_option maxHeartbeats 4000000 in
theorem few19_any (rs : List Int) (br : List Br) (rv bv : Value) (w : World) (hr : SlI w rv rs) (hb : SlBr w bv br) : Calls Tryz.prog 29 #[.agg #[rv, bv]] w (YesIf (FewT rs br) w) := by
  have HD := Lib.hid (show FewT rs br ↔ rs.length ≤ 20 ∧ br.length ≤ 257 ∧ ∀ i (h : i < br.length), br[i].kids.length ≤ 20 from Iff.rfl)
  generalize FewT rs br = PP at HD ⊢
  obtain ⟨Ar, cr, rfl, hlr, hcr, -⟩ := hr.open_
  obtain ⟨Ab, cb, rfl, hlb, hcb, hcell0⟩ := hb.open_
  unfold maxLen at hcr hcb
  have HR := Lib.hid hcell0
  clear hr hb hcell0
  by_cases h0 : ((20 < br.length ∧ br.length ≠ 257) ∨ 20 < rs.length)
  · cases a1 : decide ((20 : Int) < (br.length : Int)) <;> cases a2 : ((br.length : Int) != 257) <;> cases a3 : decide ((20 : Int) < (rs.length : Int))
    all_goals first | (exfalso; simp at a1 a2 a3; omega) | skip
    all_goals clear h0
    all_goals
      go_enter Tryz.func29, Tryz.ntmps29
      go_wp2
      go_ret
      exact YesIf.no ((Grew.refl w).alloc _)
  · have HS := Lib.hid (show rs.length ≤ 20 ∧ br.length ≤ 257 by omega)
    cases a1 : decide ((20 : Int) < (br.length : Int)) <;> cases a2 : ((br.length : Int) != 257) <;> cases a3 : decide ((20 : Int) < (rs.length : Int))
    all_goals first | (exfalso; simp at a1 a2 a3; omega) | skip
    all_goals clear h0
    all_goals
      go_enter Tryz.func29, Tryz.ntmps29
      go_wp2
      go_loop [3] (fun i => ∃ k : Nat, k ≤ br.length ∧ i = .int .i64 k ∧ Aside (∀ i (h : i < br.length), i < k → br[i].kids.length ≤ 20)) (fun i => br.length - (intOf i).toNat)
      case atStart => exact ⟨0, by omega, rfl, (show Aside _ from fun i h h2 => by omega)⟩
      case round =>
        obtain ⟨k, hk, rfl, M⟩ := hrel
        by_cases hlt : k < br.length
        · have hltz : (k : Int) < (br.length : Int) := by omega
          have h0z : (0 : Int) ≤ (k : Int) := by omega
          obtain ⟨b, off, rfl, hb, hcell⟩ := HR.out (by omega)
          obtain ⟨kv, hkv, hcl⟩ := hcell k hlt
          obtain ⟨c0, c1, c2, c3, c4, c5⟩ := hcl _ ((Grew.refl w).alloc (.cells #[.slice Ar rs.length cr, .slice (some ⟨b, off, none⟩) br.length cb] 51))
          have HY : RowKit.Hid (br[k].kids.length ≤ 20 → ∀ i (h : i < br.length), i < k + 1 → br[i].kids.length ≤ 20) := fun h i hi h2 => by
            by_cases e : i = k
            · subst e; exact h
            · exact M.out i hi (by omega)
          obtain ⟨Ak, ck, rfl, hkc, hkm, -⟩ := hkv.open_
          unfold maxLen at hkm
          generalize br[k] = y at c0 c1 c2 c3 c4 c5 HY hkc
          obtain ⟨y0, y1, y2, y3, y4, y5⟩ := y
          dsimp only at c0 c1 c2 c3 c4 c5 HY hkc
          clear hcell hcl hkv
          cases e1 : decide ((20 : Int) < (y5.length : Int)) <;> cases e2 : decide ((100 : Int) < (y3.size : Int)) <;> cases e3 : decide ((100 : Int) < (y4.size : Int))
          all_goals go_wp2
          all_goals first | (go_ret; exact YesIf.no ((Grew.refl w).alloc _)) | skip
          go_round
          case rel => exact ⟨k + 1, by omega, by go_num, (show Aside _ from HY.out (by simp at e1; omega))⟩
          case measure => simp [intOf]; omega
        · have hltz : ¬ (k : Int) < (br.length : Int) := by omega
          go_wp2
          go_ret
          exact YesIf.yes (HD.out.2 ⟨HS.out.1, HS.out.2, fun i h => M.out i h (by omega)⟩) ((Grew.refl w).alloc _)
end Go.Proofs.YtfghbendiofbeaaGreatDoor

/- Parts of a slice, and an empty list that was just made as a row of the call's own. No condition but the sizes that a slice can have. -/
namespace Go.Proofs.YtfghbendiofbeaaGreatDoor
open Go.RowKit

/-- s[:k]. -/
theorem part_to {P : Program} {t e : TypeId} {i : TypeInfo} (ht : P.underlying t = some (.slice e)) (hi : P.info? e = some i) (A : Option Addr) (n c k : Nat) (hk : k ≤ n) (hn : n ≤ c) :
    ∀ W, (Instr.slice t (.slice A n c) none (some (.int .i64 (k : Int))) none).run P W = .ok (.slice A k c) W := by
  intro W
  have h0 : (0 : Int) ≤ (k : Int) := by omega
  have h1 : k ≤ c := by omega
  have h2 : (k : Int) ≤ (c : Int) := by omega
  have ha : A.map (fun a => a.add 0) = A := by cases A <;> simp [Addr.add]
  simp [Instr.slice, run_underlying ht, Instr.sliceBounds, run_sliceBound, h2, sizeOf, typeInfo, hi, ha]
def sufV (A : Option Addr) (n c k size : Nat) : Value := .slice (if c = k then A else A.map (·.add (k * size))) (n - k) (c - k)
/-- s[k:]. -/
theorem part_from {P : Program} {t e : TypeId} {i : TypeInfo} {size : Nat} (ht : P.underlying t = some (.slice e)) (hi : P.info? e = some i) (hsize : i.size = size) (A : Option Addr) (n c k : Nat) (hk : k ≤ n) :
    ∀ W, (Instr.slice t (.slice A n c) (some (.int .i64 (k : Int))) none none).run P W = .ok (sufV A n c k size) W := by
  intro W
  subst hsize
  have h0 : (0 : Int) ≤ (k : Int) := by omega
  have h2 : (k : Int) ≤ (n : Int) := by omega
  simp [Instr.slice, run_underlying ht, Instr.sliceBounds, run_sliceBound, h2, sizeOf, typeInfo, hi, sufV]
theorem preV_rd {W : World} {size n c k : Nat} {A : Option Addr} {cs : List Value} (h : Rd W size (.slice A n c) cs) (hk : k ≤ n) : Rd W size (.slice A k c) (cs.take (k * size)) := by
  obtain ⟨A', n', c', hv, hl, hn, hc, hr⟩ := h
  obtain ⟨rfl, rfl, rfl⟩ := Value.slice.inj hv
  have hm : k * size ≤ n * size := Nat.mul_le_mul_right _ hk
  refine ⟨A, k, c, rfl, by rw [List.length_take]; omega, by omega, hc, fun h0 => ?_⟩
  obtain ⟨b, off, hA, hb, hcell⟩ := hr (by omega)
  refine ⟨b, off, hA, hb, fun j u hu => ?_⟩
  rw [List.getElem?_take] at hu
  split at hu
  · exact hcell j u hu
  · cases hu
theorem sufV_rd {W : World} {size n c k : Nat} {A : Option Addr} {cs : List Value} (h : Rd W size (.slice A n c) cs) (hk : k ≤ n) : Rd W size (sufV A n c k size) (cs.drop (k * size)) := by
  obtain ⟨A', n', c', hv, hl, hn, hc, hr⟩ := h
  obtain ⟨rfl, rfl, rfl⟩ := Value.slice.inj hv
  have hm : k * size ≤ n * size := Nat.mul_le_mul_right _ hk
  refine ⟨_, n - k, c - k, rfl, by rw [List.length_drop, hl, Nat.sub_mul], by omega, by omega, fun h0 => ?_⟩
  obtain ⟨b, off, rfl, hb, hcell⟩ := hr (by omega)
  refine ⟨b, off + k * size, ?_, hb, fun j u hu => ?_⟩
  · rw [if_neg (by omega), Option.map_some, add_lit]
  · rw [List.getElem?_drop] at hu
    rw [Nat.add_assoc]
    exact hcell _ u hu
theorem own_lit {W : World} {base size : Nat} {e : TypeId} (H : Nat) (hH : W.heap.size = H) (hb : base ≤ H) : (W.alloc (.cells #[] e)).ownsRow base e size (.slice (some ⟨H, 0, none⟩) 0 0) 0 [] := by
  subst hH
  exact World.ownsRow_made W #[] 0 hb (Nat.zero_le _) (by simp)
theorem rd_lit {W : World} {size : Nat} {e : TypeId} (cs : List Value) (hl : cs.length = size) (H : Nat) (hH : W.heap.size = H) : Rd (W.alloc (.cells cs.toArray e)) size (.slice (some ⟨H, 0, none⟩) 1 1) cs := by
  subst hH
  exact Rd.fresh W e size 1 cs (by omega) (by unfold maxLen; omega)
theorem rd_block {W : World} {size : Nat} {cs : List Value} {H n : Nat} (hl : cs.length = n * size) (hn : n ≤ maxLen) (hb : H < W.heap.size) (h : ∀ j u, cs[j]? = some u → W.cell? ⟨H, j, none⟩ = some u) : Rd W size (.slice (some ⟨H, 0, none⟩) n n) cs :=
  ⟨_, n, n, rfl, hl, Nat.le_refl _, hn, fun _ => ⟨H, 0, rfl, hb, fun j u hu => by rw [Nat.zero_add]; exact h j u hu⟩⟩
/-- append(v, u...) as a step of a region that draws its order; the heap does not shrink. -/
theorem stepZ {P : Program} {ops : Array Oper} {o : Oper} {a : Act} {K : Act → World → Prop} {Q : Exit → Act → World → Prop} {E : Prop} (hgd : o.guard = none) (s x : Operand) (t : TypeId)
    (ho : o.op = .call { callee := .builtin .append, args := #[s, x], argTypes := #[t, t] })
    (w0 : World) (e : TypeId) (i : TypeInfo) (z : Value) (size bytes : Nat) (ht : P.underlying t = some (.slice e)) (hi : P.info? e = some i) (hz : i.zero = some z)
    (hsize : i.size = size) (hby : i.bytes = bytes) (hzs : z.cells.size = size) (hsz : 0 < size)
    (v : Value) (n : Nat) (xs : List Value) (hs : a.eval s = v) (wr : World) (hown : wr.ownsRow w0.heap.size e size v n xs) (hg : Grew w0 wr)
    (u : Value) (m : Nat) (cs : List Value) (hx : a.eval x = u) (hu : Rd wr size u cs) (hl : cs.length = m * size) (h1 : ∀ u ∈ cs, u.oneCell' = true)
    (h63 : n + m ≤ maxLen) (hbytes : (n + m) * bytes ≤ 140737488355328)
    (h : ∀ v' w', w'.ownsRow w0.heap.size e size v' (n + m) (xs ++ cs) → Grew w0 w' → (∀ p x, wr.cell? p = some x → some p.block ≠ v.ownBlock → w'.cell? p = some x) → wr.heap.size ≤ w'.heap.size → K (a.put o.dst v') w') : if Region.wanted o (yielded ops a.tmps) = true then Oper.wp P o a wr K Q else E := by
  have hw : Region.wanted o (yielded ops a.tmps) = true := by simp [Region.wanted, hgd]
  rw [if_pos hw]
  obtain ⟨A, m', c, rfl, hl', hmc, _, hr⟩ := hu
  obtain rfl : m' = m := Nat.eq_of_mul_eq_mul_right hsz (hl'.symm.trans hl)
  cases A with
  | none =>
    have hm0 : m' = 0 := by
      rcases Nat.eq_zero_or_pos m' with h0 | h0
      · exact h0
      · obtain ⟨b, off, hA, _⟩ := hr h0
        cases hA
    subst hm0
    have hcs : cs = [] := List.eq_nil_of_length_eq_zero (by omega)
    subst hcs
    have hrun := run_append_none wr w0.heap.size t o.type e i size ht hi v n xs hown c
    unfold Oper.wp execOp
    simp only [ho, resolve, invoke, builtin, Sem.run_bind, Sem.run_pure, Result.andThen_ok, List.map_toArray, List.map_cons, List.map_nil, hs, hx, hrun]
    exact h v wr (by simpa using hown) hg (fun p x hp _ => hp) (Nat.le_refl _)
  | some ad =>
    refine wp_append_own wr s x t ho w0.heap.size e i z size bytes ht hi hz hsize hby hzs hsz v n xs hs hown ad m' c cs hx hl ?_ h1 h63 hbytes hg.size ?_
    · intro j u hu
      have hj := (List.getElem?_eq_some_iff.1 hu).1
      have h0 : 0 < m' := by
        rcases Nat.eq_zero_or_pos m' with h0 | h0
        · subst h0; omega
        · exact h0
      obtain ⟨b, off, hA, _, hcell⟩ := hr h0
      cases hA
      rw [add_lit]
      exact hcell j u hu
    · intro v' w' h2 h3 _
      exact h v' w' h2 (Below.grown hg h3 hg.size (fun k hk => (hown.lt k hk).1)) (fun p x hp hne => h3.cell hp hne) h3.size
theorem insU_at (n : Int) : ∀ (l : List Int) (k : Nat), k ≤ l.length → (∀ j (h : j < l.length), j < k → l[j] < n) → (∀ h : k < l.length, n < l[k]) → insU n l = l.take k ++ n :: l.drop k
  | [], k, hk, _, _ => by
    obtain rfl : k = 0 := by simpa using hk
    rfl
  | x :: r, 0, _, _, h2 => by
    have h := h2 (by simp)
    simp only [List.getElem_cons_zero] at h
    rw [insU, if_neg (by omega), if_neg (by omega)]
    rfl
  | x :: r, k + 1, hk, h1, h2 => by
    have h := h1 0 (by simp) (by omega)
    simp only [List.getElem_cons_zero] at h
    rw [insU, if_pos h, insU_at n r k (by simpa using hk) (fun j hj hjk => by have := h1 (j + 1) (by simpa using hj) (by omega); simpa using this) (fun hj => by have := h2 (by simpa using hj); simpa using this)]
    rfl
theorem insU_in (n : Int) : ∀ (l : List Int) (k : Nat) (hk : k < l.length), (∀ j (h : j < l.length), j < k → l[j] < n) → l[k] = n → insU n l = l
  | [], _, hk, _, _ => absurd hk (Nat.not_lt_zero _)
  | x :: r, 0, _, _, h2 => by
    simp only [List.getElem_cons_zero] at h2
    rw [insU, if_neg (by omega), if_pos h2]
  | x :: r, k + 1, hk, h1, h2 => by
    have h := h1 0 (by simp) (by omega)
    simp only [List.getElem_cons_zero] at h
    rw [insU, if_pos h, insU_in n r k (by simpa using hk) (fun j hj hjk => by have := h1 (j + 1) (by simpa using hj) (by omega); simpa using this) (by simpa using h2)]
end Go.Proofs.YtfghbendiofbeaaGreatDoor
