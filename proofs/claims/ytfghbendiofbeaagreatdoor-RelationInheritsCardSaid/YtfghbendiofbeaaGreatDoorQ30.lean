/- Lemmas on what the functions of the program and of the library compute: LAsks, RE1, RE2, PlainK. The conditions stand at each. -/
import Derived.Test.YtfghbendiofbeaaGreatDoorQ27
import Derived.Test.YtfghbendiofbeaaGreatDoorQ29
import Derived.Test.YtfghbendiofbeaaGreatDoorQ11
import Derived.Test.YtfghbendiofbeaaGreatDoorQ28
import Derived.Test.YtfghbendiofbeaaGreatDoorQ14
import Derived.Test.YtfghbendiofbeaaGreatDoorQ10
import Derived.Test.YtfghbendiofbeaaGreatDoorQ2
/- The statement on what is asked of relations, walked: it returns true at every input and changes no block that lay before. The condition: the library's own variables hold what they must. -/
namespace Go.Proofs.YtfghbendiofbeaaGreatDoor
open Go.RowKit

theorem sameI (l : List Int) (v u : Value) (w : World) (hv : SlI w v l) (hu : SlI w u l) : Calls Tryz.prog 28 #[v, u] w fun e w' => e = .returned (.bool true) ∧ Grew w w' := by
  have := equalI l l v u w hv hu
  rw [decide_eq_true rfl] at this
  exact this
set_option maxHeartbeats 8000000 in
set_option maxRecDepth 100000 in
theorem asks_walk (a : List Auth) (l : List Rel) (unit role id day : Int) (av lv : Value) (w : World) (hE : Env w) (ha : SlAu w av a) (hl : SlR w lv l) :
    Calls Tryz.prog 5 #[av, lv, .int .i64 unit, .int .i64 role, .int .i64 id, .int .i64 day] w (YesG w) := by
  have KF := Lib.hid (fun W (hW : Grew w W) => few26_any a l av lv W (ha.mono hW) (hl.mono hW))
  have HE := Lib.hid hE
  have HA := Lib.hid ha
  have HL := Lib.hid hl
  obtain ⟨A1, c1, rfl, -, -, -⟩ := hl.open_
  obtain ⟨A2, c2, rfl, -, -, -⟩ := ha.open_
  clear hE ha hl
  go_enter Tryz.func5, Tryz.ntmps5
  go_wp2_with fail
  refine (awake26 _ HE.out).mono ?_
  rintro e w1 ⟨rfl, g1⟩
  have G1 := Lib.hid g1
  clear g1
  dsimp only
  go_wp2_with fail
  refine (KF.out _ G1.out).mono ?_
  rintro e w2 ⟨q, rfl, hq, g2⟩
  have G2 := Lib.hid (G1.out.trans g2)
  have HQ := Lib.hid hq
  clear g2 hq
  dsimp only
  cases q
  case false =>
    go_wp2_with fail
    refine (awake26 _ (HE.out.mono G2.out)).mono ?_
    rintro e w3 ⟨rfl, g3⟩
    dsimp only
    go_wp2
    go_ret
    exact ⟨rfl, G2.out.trans g3⟩
  obtain ⟨hfa, hll⟩ := HQ.out (by first | rfl | trivial)
  have HFA := Lib.hid hfa
  clear hfa HQ
  go_wp2_with fail
  refine (copyG a _ _ (HA.out.mono G2.out) HFA.out).mono ?_
  rintro e w3 ⟨v3, rfl, s3, g3⟩
  have G3 := Lib.hid (G2.out.trans g3)
  have S3 := Lib.hid s3
  clear s3 g3
  dsimp only
  go_wp2_with fail
  refine (cloneG l _ _ (HL.out.mono G3.out) hll).mono ?_
  rintro e w4 ⟨v4, rfl, s4, g4⟩
  have G4 := Lib.hid (G3.out.trans g4)
  have S3' := Lib.hid (S3.out.mono g4)
  have S4 := Lib.hid s4
  clear s4 g4 S3
  dsimp only
  have kH := rHolders a l unit role day v3 v4 w4 (HE.out.mono G4.out) S3'.out HFA.out.au S4.out (by omega)
  have kH2 := fun W (hW : Grew w W) => refHolders a l unit role day _ _ W (HA.out.mono hW) (HL.out.mono hW) (by omega)
  have kU2 := fun W (hW : Grew w W) => refUnits a l id day _ _ W (HA.out.mono hW) (HL.out.mono hW) (by omega)
  have HU := Lib.hid (fun v3 v4 w4 h1 h2 h3 => rUnits a l id day v3 v4 w4 h1 h2 HFA.out.au h3 (by omega))
  generalize holdersR a l unit role day = H at kH kH2
  obtain ⟨hs, he⟩ := H
  generalize unitsF a l id day = U at HU kU2
  obtain ⟨us, ue⟩ := U
  have KH := Lib.hid kH
  have KH2 := Lib.hid kH2
  have KU2 := Lib.hid kU2
  clear kH kH2 kU2
  go_wp2_with fail
  refine KH.out.mono ?_
  rintro e w5 ⟨v5, rfl, s5, g5⟩
  dsimp only at s5
  have G5 := Lib.hid (G4.out.trans g5)
  have S5 := Lib.hid s5
  clear g5 s5 S3' S4 KH
  dsimp only
  go_wp2_with fail
  refine (KH2.out _ G5.out).mono ?_
  rintro e w6 ⟨v6, rfl, s6, g6⟩
  dsimp only at s6
  have G6 := Lib.hid (G5.out.trans g6)
  have S5' := Lib.hid (S5.out.mono g6)
  have S6 := Lib.hid s6
  clear g6 s6 S5
  dsimp only
  go_wp2_with fail
  refine (copyG a _ _ (HA.out.mono G6.out) HFA.out).mono ?_
  rintro e w7 ⟨v7, rfl, s7, g7⟩
  have G7 := Lib.hid (G6.out.trans g7)
  have G67 := Lib.hid g7
  have S7 := Lib.hid s7
  clear s7 g7
  dsimp only
  go_wp2_with fail
  refine (cloneG l _ _ (HL.out.mono G7.out) hll).mono ?_
  rintro e w8 ⟨v8, rfl, s8, g8⟩
  have G8 := Lib.hid (G7.out.trans g8)
  have G68 := Lib.hid (G67.out.trans g8)
  have S7' := Lib.hid (S7.out.mono g8)
  have S8 := Lib.hid s8
  clear s8 g8 S7
  dsimp only
  go_wp2_with fail
  refine (HU.out v7 v8 w8 (HE.out.mono G8.out) S7'.out S8.out).mono ?_
  rintro e w9 ⟨v9, rfl, s9, g9⟩
  dsimp only at s9
  have G9 := Lib.hid (G8.out.trans g9)
  have G69 := Lib.hid (G68.out.trans g9)
  have S9 := Lib.hid s9
  clear s9 g9 S7' S8
  dsimp only
  go_wp2_with fail
  refine (KU2.out _ G9.out).mono ?_
  rintro e w10 ⟨v10, rfl, s10, g10⟩
  dsimp only at s10
  have GA := Lib.hid (G9.out.trans g10)
  have G6A := Lib.hid (G69.out.trans g10)
  have S9' := Lib.hid (S9.out.mono g10)
  have S10 := Lib.hid s10
  clear s10 g10 S9
  dsimp only
  go_wp2_with fail
  refine (sameI hs _ _ _ (S5'.out.mono G6A.out) (S6.out.mono G6A.out)).mono ?_
  rintro e w11 ⟨rfl, g11⟩
  have GB := Lib.hid (GA.out.trans g11)
  have SA := Lib.hid (S9'.out.mono g11)
  have SB := Lib.hid (S10.out.mono g11)
  clear g11
  dsimp only
  go_wp2_with fail
  refine (sameI us _ _ _ SA.out SB.out).mono ?_
  rintro e w12 ⟨rfl, g12⟩
  dsimp only
  go_wp2
  go_ret
  exact ⟨by simp, GB.out.trans g12⟩
end Go.Proofs.YtfghbendiofbeaaGreatDoor

/- The reference's small functions on trees, walked: marks, levels, Find. No condition. -/
namespace Go.Proofs.YtfghbendiofbeaaGreatDoor
open Go.RowKit

def okM (l : List UInt8) (i : Nat) : Prop := ∀ c, l[i]? = some c → 33 ≤ c.toNat ∧ c.toNat ≤ 126
theorem mark_rest (l : List UInt8) : allIn 33 126 l = true ↔ ∀ i, i < l.length → okM l i := by
  unfold allIn
  rw [List.all_eq_true]
  constructor
  · intro h i hi c hc
    have := h c (List.mem_of_getElem? hc)
    rw [Bool.and_eq_true, decide_eq_true_eq, decide_eq_true_eq] at this
    exact this
  · intro h c hc
    obtain ⟨i, hi, rfl⟩ := List.mem_iff_getElem.1 hc
    have := h i hi l[i] (List.getElem?_eq_getElem hi)
    rw [Bool.and_eq_true, decide_eq_true_eq, decide_eq_true_eq]
    exact this
set_option maxHeartbeats 2000000 in
theorem refMark (s : ByteArray) (w : World) (hb : s.size ≤ 9223372036854775807) : Calls Tryz.prog 168 #[.string s] w fun e w' => e = .returned (.bool (markF s.data.toList)) ∧ Grew w w' := by
  have hsd := size_data s
  have hN : markF s.data.toList = (decide (1 ≤ (s.size : Int)) && (decide ((s.size : Int) ≤ 64) && allIn 33 126 s.data.toList)) := by
    unfold markF
    rw [hsd, ← Bool.and_assoc]
    congr 1
    rw [Bool.eq_iff_iff]
    simp
    omega
  rw [hN]
  have hrest := mark_rest s.data.toList
  rw [hsd] at hrest
  generalize allIn 33 126 s.data.toList = Q at hrest ⊢
  have HRE := Lib.hid hrest
  clear hsd hN hrest
  go_enter Tryz.func168, Tryz.ntmps168
  go_wp2
  go_loop [3] (fun i => ∃ k : Nat, k ≤ s.size ∧ i = .int .i64 k ∧ Aside (∀ j, j < k → okM s.data.toList j)) (fun i => s.size - (intOf i).toNat)
  case atStart => exact ⟨0, by omega, rfl, (show Aside _ from fun j h => absurd h (Nat.not_lt_zero _))⟩
  case round =>
    obtain ⟨k, hk, rfl, M⟩ := hrel
    by_cases hlt : k < s.size
    case neg =>
      have hltz : ¬ (k : Int) < (s.size : Int) := by omega
      have hQ : Q = true := HRE.out.2 (fun i hi => M.out i (by omega))
      subst hQ
      cases a1 : decide (1 ≤ (s.size : Int)) <;> cases a2 : decide ((s.size : Int) ≤ 64)
      all_goals
        go_wp2
        go_ret
        exact ⟨rfl, Grew.refl w⟩
    have hltz : (k : Int) < (s.size : Int) := by omega
    have h0z : (0 : Int) ≤ (k : Int) := by omega
    have hck := data_at s k hlt
    have HBAD : RowKit.Hid (¬ okM s.data.toList k → Q = false) := fun h => by
      rw [← Bool.not_eq_true, HRE.out]
      exact fun h2 => h (h2 k hlt)
    have HS : RowKit.Hid (okM s.data.toList k → ∀ j, j < k + 1 → okM s.data.toList j) := fun h j hj => by
      by_cases e : j = k
      · subst e; exact h
      · exact M.out j (by omega)
    have HOK : RowKit.Hid (okM s.data.toList k ↔ 33 ≤ (s[k].toNat : Int) ∧ (s[k].toNat : Int) ≤ 126) := by
      constructor
      · intro h
        have := h s[k] hck
        omega
      · intro h c hc
        rw [hck] at hc
        obtain rfl := Option.some.inj hc
        omega
    clear hck
    cases b1 : decide ((s[k].toNat : Int) < 33) with
    | true =>
      have hQ := HBAD.out (fun h => by have := (HOK.out.1 h).1; simp at b1; omega)
      subst hQ
      go_wp2
      go_ret
      exact ⟨by simp, Grew.refl w⟩
    | false =>
    cases b2 : decide (126 < (s[k].toNat : Int)) with
    | true =>
      have hQ := HBAD.out (fun h => by have := (HOK.out.1 h).2; simp at b2; omega)
      subst hQ
      go_wp2
      go_ret
      exact ⟨by simp, Grew.refl w⟩
    | false =>
    have Hy := Lib.hid (HS.out (HOK.out.2 (by simp at b1 b2; omega)))
    clear HBAD HS HOK M
    go_wp2
    go_round
    case rel => exact ⟨k + 1, by omega, by go_num, (show Aside _ from Hy.out)⟩
    case measure => simp [intOf]; omega
set_option maxHeartbeats 2000000 in
theorem refLevel (n : Int) (w : World) : Calls Tryz.prog 166 #[.int .i64 n] w fun e w' => e = .returned (.bool (within n 1 4)) ∧ w = w' := by
  unfold within
  cases a1 : decide (1 ≤ n) <;> cases a2 : decide (n ≤ 4)
  all_goals
    go_enter Tryz.func166, Tryz.ntmps166
    go_wp2
    go_ret
    exact ⟨rfl, rfl⟩
set_option maxHeartbeats 2000000 in
theorem refFits (p c : Int) (w : World) : Calls Tryz.prog 169 #[.int .i64 p, .int .i64 c] w fun e w' => e = .returned (.bool (fitsF p c)) ∧ w = w' := by
  have kp := refLevel p
  have kc := refLevel c
  have hf : fitsF p c = (within p 1 4 && (within c 1 4 && (decide (p < c) || ((c == 2) && (p == 2))))) := by
    unfold fitsF
    rw [Bool.and_comm (p == 2)]
  rw [hf]
  generalize within p 1 4 = q1 at kp ⊢
  generalize within c 1 4 = q2 at kc ⊢
  have KP := Lib.hid kp
  have KC := Lib.hid kc
  clear kp kc hf
  cases q1
  · go_enter Tryz.func169, Tryz.ntmps169
    go_wp2_with fail
    refine (KP.out _).mono ?_
    rintro e w1 ⟨rfl, rfl⟩
    dsimp only
    go_wp2
    go_ret
    exact ⟨by simp, rfl⟩
  cases q2
  · go_enter Tryz.func169, Tryz.ntmps169
    go_wp2_with fail
    refine (KP.out _).mono ?_
    rintro e w1 ⟨rfl, rfl⟩
    dsimp only
    go_wp2_with fail
    refine (KC.out _).mono ?_
    rintro e w1 ⟨rfl, rfl⟩
    dsimp only
    go_wp2
    go_ret
    exact ⟨by simp, rfl⟩
  cases a1 : decide (p < c) <;> cases a2 : (c == 2) <;> cases a3 : (p == 2)
  all_goals
    go_enter Tryz.func169, Tryz.ntmps169
    go_wp2_with fail
    refine (KP.out _).mono ?_
    rintro e w1 ⟨rfl, rfl⟩
    dsimp only
    go_wp2_with fail
    refine (KC.out _).mono ?_
    rintro e w1 ⟨rfl, rfl⟩
    dsimp only
    go_wp2
    go_ret
    exact ⟨rfl, rfl⟩
theorem brFind_hit {l : List Br} {id : Int} {k : Nat} (h : k < l.length) (hb : ∀ j (hj : j < l.length), j < k → ¬ l[j].id = id) (he : l[k].id = id) : brFind l id = some l[k] := by
  unfold brFind
  exact List.find?_eq_some_iff_getElem.2 ⟨by simpa using he, k, h, rfl, fun j hj => by simpa using hb j (by omega) hj⟩
theorem brFind_miss {l : List Br} {id : Int} (hb : ∀ j (hj : j < l.length), ¬ l[j].id = id) : brFind l id = none := by
  unfold brFind
  rw [List.find?_eq_none]
  intro x hx
  obtain ⟨j, hj, rfl⟩ := List.mem_iff_getElem.1 hx
  simpa using hb j hj
set_option maxHeartbeats 4000000 in
theorem refFind19 (l : List Br) (id : Int) (rv bv : Value) (w : World) (hv : SlBr w bv l) : Calls Tryz.prog 134 #[.agg #[rv, bv], .int .i64 id] w (TFindEnd (brFind l id) w) := by
  obtain ⟨A, c, rfl, hlc, hc, hr⟩ := hv.open_
  unfold maxLen at hc
  have HR := Lib.hid hr
  have HF1 := Lib.hid (fun k => @brFind_hit l id k)
  have HF2 := Lib.hid (@brFind_miss l id)
  generalize brFind l id = O at HF1 HF2 ⊢
  clear hr hv
  go_enter Tryz.func134, Tryz.ntmps134
  go_wp2
  go_loop [6] (fun i => ∃ k : Nat, k ≤ l.length ∧ i = .int .i64 k ∧ Aside (∀ j (hj : j < l.length), j < k → ¬ l[j].id = id)) (fun i => l.length - (intOf i).toNat)
  case atStart => exact ⟨0, by omega, rfl, (show Aside _ from fun j h h2 => absurd h2 (Nat.not_lt_zero _))⟩
  case round =>
    obtain ⟨k, hk, rfl, M⟩ := hrel
    by_cases hlt : k < l.length
    · have hltz : (k : Int) < (l.length : Int) := by omega
      have h0z : (0 : Int) ≤ (k : Int) := by omega
      obtain ⟨b, off, rfl, hb, hcell⟩ := HR.out (by omega)
      obtain ⟨kv, -, hcl⟩ := hcell k hlt
      obtain ⟨c0, c1, c2, c3, c4, -⟩ := hcl _ (((Grew.refl w).alloc (.cells #[rv, .slice (some ⟨b, off, none⟩) l.length c] 51)).alloc (.cells #[.int .i64 0, .int .i64 0, .int .i64 0, .string ⟨#[]⟩, .string ⟨#[]⟩] 57))
      have HS := Lib.hid (HF1.out k hlt M.out)
      have HN : RowKit.Hid (¬ l[k].id = id → ∀ j (hj : j < l.length), j < k + 1 → ¬ l[j].id = id) := fun h j hj h2 => by
        by_cases e : j = k
        · subst e; exact h
        · exact M.out j hj (by omega)
      generalize l[k] = y at c0 c1 c2 c3 c4 HS HN
      obtain ⟨yi, yp, yl, yt, ym, yk⟩ := y
      dsimp only at c0 c1 c2 c3 c4 HS HN
      clear hcell hcl
      by_cases he : yi = id
      · have hO := HS.out he
        have he' : (yi == id) = true := by simpa using he
        subst hO
        clear he HS HN M HF1 HF2
        go_wp2
        refine bodyPost_ret (v := .tuple #[.agg #[.int .i64 yi, .int .i64 yp, .int .i64 yl, .string yt, .string ym], .bool true]) (by simp [results, Tryz.results134, go_sem]) rfl ⟨rfl, ?_⟩
        repeat (with_reducible refine Grew.setCell ?_ (by simp) _)
        exact ((Grew.refl w).alloc _).alloc _
      · have he' : (yi == id) = false := by simpa using he
        have Hy := Lib.hid (HN.out he)
        clear he HS HN M
        go_wp2
        go_round
        case rel => exact ⟨k + 1, by omega, by go_num, (show Aside _ from Hy.out)⟩
        case measure => simp [intOf]; omega
    · have hltz : ¬ (k : Int) < (l.length : Int) := by omega
      have hO := HF2.out (fun j hj => M.out j hj (by omega))
      subst hO
      clear HF1 HF2 M
      go_wp2
      refine bodyPost_ret (v := .tuple #[.agg #[.int .i64 0, .int .i64 0, .int .i64 0, .string ⟨#[]⟩, .string ⟨#[]⟩], .bool false]) (by simp [results, Tryz.results134, go_sem]) rfl ⟨rfl, ?_⟩
      repeat (with_reducible refine Grew.setCell ?_ (by simp) _)
      exact ((Grew.refl w).alloc _).alloc _
end Go.Proofs.YtfghbendiofbeaaGreatDoor

/- The reference's place and own of a unit of a tree, walked. The condition of own: the marks are no longer than a string can be. -/
namespace Go.Proofs.YtfghbendiofbeaaGreatDoor
open Go.RowKit

theorem fits_ne {p c : Int} (h : fitsF p c = true) : c ≠ 1 := by
  unfold fitsF within at h
  simp at h
  omega
set_option maxHeartbeats 4000000 in
theorem refPlace (l : List Br) (y : Br) (rv bv : Value) (w : World) (hv : SlBr w bv l) :
    Calls Tryz.prog 132 #[.agg #[rv, bv], .agg #[.int .i64 y.id, .int .i64 y.parent, .int .i64 y.level, .string y.title, .string y.mark]] w (RetIff (BrPlaced l y) w) := by
  have HD : RowKit.Hid (BrPlaced l y ↔ if y.parent = 0 then y.level = 1 else ∃ p, brFind l y.parent = some p ∧ y.level ≠ 1 ∧ fitsF p.level y.level = true) := Iff.rfl
  generalize BrPlaced l y = PA at HD ⊢
  obtain ⟨yi, yp, yl, yt, ym, yk⟩ := y
  dsimp only at HD ⊢
  have kI := fun W (hW : Grew w W) => refFind19 l yp rv bv W (hv.mono hW)
  obtain ⟨A, c, rfl, -, -, -⟩ := hv.open_
  have HGB := Lib.hid (((Grew.refl w).alloc (.cells [rv, .slice A l.length c].toArray 51)).alloc (.cells [.int .i64 yi, .int .i64 yp, .int .i64 yl, .string yt, .string ym].toArray 57))
  clear hv
  by_cases hp : yp = 0
  · subst hp
    have HDI : RowKit.Hid (PA ↔ yl = 1) := by
      show _ ↔ _
      rw [HD.out, if_pos rfl]
    clear kI
    by_cases h1 : yl = 1
    · subst h1
      have Hy : RowKit.Hid PA := HDI.out.2 rfl
      go_enter Tryz.func132, Tryz.ntmps132
      go_wp2
      go_ret
      exact RetIff.yes Hy.out HGB.out
    · have h1' : (yl != 1) = true := by simpa using h1
      have Hn : RowKit.Hid (¬ PA) := fun h => h1 (HDI.out.1 h)
      clear h1
      go_enter Tryz.func132, Tryz.ntmps132
      go_wp2
      go_ret
      exact RetIff.no 18 (by decide) Hn.out HGB.out
  have hp' : (yp == 0) = false := by simpa using hp
  have HDI : RowKit.Hid (PA ↔ ∃ p, brFind l yp = some p ∧ yl ≠ 1 ∧ fitsF p.level yl = true) := by
    show _ ↔ _
    rw [HD.out, if_neg hp]
  clear HD hp
  generalize brFind l yp = O at kI HDI
  unfold TFindEnd at kI
  have KI := Lib.hid kI
  clear kI
  cases O with
  | none =>
    have Hn : RowKit.Hid (¬ PA) := fun h => by
      obtain ⟨p, hpp, _⟩ := HDI.out.1 h
      cases hpp
    simp only [Option.getD_none, Option.isSome_none, br0] at KI
    go_enter Tryz.func132, Tryz.ntmps132
    go_wp2_with fail
    refine (KI.out _ HGB.out).mono ?_
    rintro e w1 ⟨rfl, g1⟩
    dsimp only
    go_wp2
    go_ret
    exact RetIff.no 7 (by decide) Hn.out ((HGB.out.trans g1).alloc _)
  | some p =>
    obtain ⟨pi, pp, pl, pt, pm, pk⟩ := p
    simp only [Option.getD_some, Option.isSome_some] at KI
    have kf := refFits pl yl
    have HIF : RowKit.Hid (PA ↔ fitsF pl yl = true) := by
      show _ ↔ _
      rw [HDI.out]
      constructor
      · rintro ⟨p, hp, _, h⟩
        cases hp
        exact h
      · intro h
        exact ⟨_, rfl, fits_ne h, h⟩
    generalize fitsF pl yl = q at kf HIF
    have KF := Lib.hid kf
    clear kf HDI
    go_enter Tryz.func132, Tryz.ntmps132
    go_wp2_with fail
    refine (KI.out _ HGB.out).mono ?_
    rintro e w1 ⟨rfl, g1⟩
    have HG1 := Lib.hid (g1.alloc (.cells [.int .i64 pi, .int .i64 pp, .int .i64 pl, .string pt, .string pm].toArray 57))
    have n2 := newer_cell HG1.out 2 _ rfl
    have HW1 := Lib.hid (HGB.out.trans HG1.out)
    clear g1
    dsimp only
    go_wp2_with fail
    refine (KF.out _).mono ?_
    rintro e w2 ⟨rfl, rfl⟩
    dsimp only
    cases q
    · have Hn : RowKit.Hid (¬ PA) := fun h => by have := HIF.out.1 h; cases this
      go_wp2
      go_ret
      exact RetIff.no 18 (by decide) Hn.out HW1.out
    · have Hy : RowKit.Hid PA := HIF.out.2 rfl
      go_wp2
      go_ret
      exact RetIff.yes Hy.out HW1.out
theorem any_take {l : List Br} {i : Nat} (hi : i ≤ l.length) {m : ByteArray} : (l.take i).any (fun b => b.mark.toList == m.toList) = true ↔ ∃ j, ∃ h : j < l.length, j < i ∧ (l[j].mark.toList == m.toList) = true := by
  rw [List.any_eq_true]
  constructor
  · rintro ⟨b, hb, h⟩
    obtain ⟨j, hj, rfl⟩ := List.mem_iff_getElem.1 hb
    rw [List.length_take] at hj
    exact ⟨j, by omega, by omega, by simpa using h⟩
  · rintro ⟨j, hj, hji, h⟩
    exact ⟨l[j], List.mem_iff_getElem.2 ⟨j, by rw [List.length_take]; omega, List.getElem_take⟩, h⟩
set_option maxHeartbeats 16000000 in
theorem refOwn19 (l : List Br) (i : Nat) (hi : i < l.length) (rv bv : Value) (w : World) (hv : SlBr w bv l) (hm : l[i].mark.size ≤ 9223372036854775807) :
    Calls Tryz.prog 131 #[.agg #[rv, bv], .int .i64 i] w (RetIff (BrAlone l i hi) w) := by
  obtain ⟨A, c, rfl, hlc, hc, hr⟩ := hv.open_
  unfold maxLen at hc
  obtain ⟨b, off, rfl, hbk, hcell⟩ := hr (by omega)
  obtain ⟨kv, -, hcl⟩ := hcell i hi
  obtain ⟨c0, c1, c2, c3, c4, -⟩ := hcl (w.alloc (.cells [rv, .slice (some ⟨b, off, none⟩) l.length c].toArray 51)) ((Grew.refl w).alloc _)
  have HD : RowKit.Hid (BrAlone l i hi ↔ within l[i].id 1 1073741824 = true ∧ within l[i].level 1 4 = true ∧ (0 < i → (l[i - 1]'(by omega)).id < l[i].id) ∧ nameF l[i].title.data.toList = true ∧ markOk l i l[i].mark) := Iff.rfl
  have HPREV : RowKit.Hid (0 < i → ∀ W, Grew w W → W.cell? ⟨b, off + (i - 1) * 6, none⟩ = some (.int .i64 (l[i - 1]'(by omega)).id)) := fun h W hW => by
    obtain ⟨_, _, hq⟩ := hcell (i - 1) (by omega)
    exact (hq W hW).1
  have HMC : RowKit.Hid (∀ j (h : j < l.length) W, Grew w W → W.cell? ⟨b, off + j * 6 + 4, none⟩ = some (.string l[j].mark)) := fun j h W hW => by
    obtain ⟨_, _, hq⟩ := hcell j h
    exact (hq W hW).2.2.2.2.1
  have hiz : (i : Int) < (l.length : Int) := by omega
  have h0z : (0 : Int) ≤ (i : Int) := by omega
  generalize BrAlone l i hi = PA at HD ⊢
  generalize hp : (0 < i → (l[i - 1]'(by omega)).id < l[i].id) = PP at HD
  have HU := Lib.hid (fun m => any_take (l := l) (i := i) (by omega) (m := m))
  generalize l[i] = y at c0 c1 c2 c3 c4 HD hp hm
  obtain ⟨yi, yp, yl, yt, ym, yk⟩ := y
  dsimp only at c0 c1 c2 c3 c4 HD hp hm
  have HPP := Lib.hid hp
  have kl := refLevel yl
  have kn := refName yt
  have km := fun W => refMark ym W hm
  have HUM := Lib.hid (HU.out ym)
  have HMK : RowKit.Hid (markOk l i ym ↔ (ym.toList.isEmpty = false → markF ym.data.toList = true ∧ (l.take i).any (fun b => b.mark.toList == ym.toList) = false)) := Iff.rfl
  have HW0 : RowKit.Hid (within yi 1 1073741824 = true ↔ 1 ≤ yi ∧ yi ≤ 1073741824) := within_t
  generalize markOk l i ym = PM at HD HMK
  generalize within yi 1 1073741824 = q1 at HW0 HD
  generalize within yl 1 4 = q2 at kl HD
  generalize nameF yt.data.toList = q3 at kn HD
  generalize markF ym.data.toList = q4 at km HMK
  generalize (l.take i).any (fun b => b.mark.toList == ym.toList) = q5 at HUM HMK
  have KL := Lib.hid kl
  have KN := Lib.hid kn
  have KM := Lib.hid km
  have HGB := Lib.hid (((Grew.refl w).alloc (.cells [rv, .slice (some ⟨b, off, none⟩) l.length c].toArray 51)).alloc (.cells [.int .i64 yi, .int .i64 yp, .int .i64 yl, .string yt, .string ym].toArray 57))
  clear hp kl kn km hcell hcl hr hv HU hm
  by_cases hq1 : 1 ≤ yi ∧ yi ≤ 1073741824
  case neg =>
    have Hn : RowKit.Hid (¬ PA) := fun h => hq1 (HW0.out.1 (HD.out.1 h).1)
    have hsp : decide (yi < 1) = true ∨ (decide (yi < 1) = false ∧ decide (1073741824 < yi) = true) := by
      by_cases h : yi < 1
      · exact .inl (by simpa using h)
      · exact .inr ⟨by simpa using h, by simp; omega⟩
    clear hq1
    rcases hsp with a1 | ⟨a1, a2⟩
    all_goals
      go_enter Tryz.func131, Tryz.ntmps131
      go_wp2
      go_ret
      exact RetIff.no 2 (by decide) Hn.out HGB.out
  have HQ1 := Lib.hid (HW0.out.2 hq1)
  have a1 : decide (yi < 1) = false := by simp; omega
  have a2 : decide (1073741824 < yi) = false := by simp; omega
  clear hq1
  cases q2 with
  | false =>
    have Hn : RowKit.Hid (¬ PA) := fun h => by have := (HD.out.1 h).2.1; cases this
    go_enter Tryz.func131, Tryz.ntmps131
    go_wp2_with fail
    refine (KL.out _).mono ?_
    rintro e w1 ⟨rfl, rfl⟩
    dsimp only
    go_wp2
    go_ret
    exact RetIff.no 2 (by decide) Hn.out HGB.out
  | true =>
  have hsp : (0 < i ∧ ¬ PP ∧ ∃ z, z = z ∧ (∀ W, Grew w W → W.cell? ⟨b, off + (i - 1) * 6, none⟩ = some (.int .i64 z)) ∧ yi ≤ z) ∨ (i = 0 ∧ PP) ∨ (0 < i ∧ PP ∧ ∃ z, z = z ∧ (∀ W, Grew w W → W.cell? ⟨b, off + (i - 1) * 6, none⟩ = some (.int .i64 z)) ∧ z < yi) := by
    rcases Nat.eq_zero_or_pos i with h0 | h0
    · exact .inr (.inl ⟨h0, by rw [← HPP.out]; intro h; omega⟩)
    · by_cases h1 : (l[i - 1]'(by omega)).id < yi
      · exact .inr (.inr ⟨h0, by rw [← HPP.out]; exact fun _ => h1, _, rfl, HPREV.out h0, h1⟩)
      · exact .inl ⟨h0, by rw [← HPP.out]; exact fun h => h1 (h h0), _, rfl, HPREV.out h0, by omega⟩
  rcases hsp with ⟨h0, hpp, z, -, hcz, hz⟩ | hok
  · have Hn : RowKit.Hid (¬ PA) := fun h => hpp (HD.out.1 h).2.2.1
    have hkz : (0 : Int) < (i : Int) := by omega
    have hki : (0 : Int) ≤ (i : Int) - 1 := by omega
    have hki3 : (1 : Int) ≤ (i : Int) := by omega
    have hki2 : (i : Int) - 1 < (l.length : Int) := by omega
    have hkt : ((i : Int) - 1).toNat = i - 1 := by omega
    have d0 := hcz ((w.alloc (.cells [rv, .slice (some ⟨b, off, none⟩) l.length c].toArray 51)).alloc (.cells [.int .i64 yi, .int .i64 yp, .int .i64 yl, .string yt, .string ym].toArray 57)) HGB.out
    clear hcz hpp
    go_enter Tryz.func131, Tryz.ntmps131
    go_wp2_with fail
    refine (KL.out _).mono ?_
    rintro e w1 ⟨rfl, rfl⟩
    dsimp only
    have hwr : IntKind.i64.wrap ((i : Int) - 1) = (i : Int) - 1 := IntWalk.i64_in _ (by omega)
    go_wp2
    go_quiet (fail)
    clear hwr d0
    go_wp2
    go_ret
    exact RetIff.no 5 (by decide) Hn.out (HGB.out.drewN _)
  have HPPT : RowKit.Hid PP := by
    rcases hok with h | h
    · exact h.2
    · exact h.2.1
  have hok2 : (i = 0) ∨ (0 < i ∧ ∃ z, z = z ∧ (∀ W, Grew w W → W.cell? ⟨b, off + (i - 1) * 6, none⟩ = some (.int .i64 z)) ∧ z < yi) := by
    rcases hok with h | ⟨h0, -, z, h⟩
    · exact .inl h.1
    · exact .inr ⟨h0, z, h⟩
  clear hok HPREV
  rcases hok2 with hi0 | ⟨h0, z, -, hcz, hz⟩
  · subst hi0
    simp only [Nat.zero_mul, Nat.add_zero] at c0 c1 c2 c3 c4
    go_enter Tryz.func131, Tryz.ntmps131
    go_wp2_with fail
    refine (KL.out _).mono ?_
    rintro e w1 ⟨rfl, rfl⟩
    dsimp only
    go_wp2
    go_quiet (fail)
    go_wp2_with fail
    refine (KN.out _).mono ?_
    rintro e w2 ⟨rfl, g2⟩
    have HG2 := Lib.hid ((Grew.drewN (Grew.refl _) _).trans g2)
    have HW2 := Lib.hid ((Grew.drewN HGB.out _).trans g2)
    have m4 := newer_cell HG2.out 4 _ rfl
    clear g2
    dsimp only
    cases q3 with
    | false =>
      have Hn : RowKit.Hid (¬ PA) := fun h => by have := (HD.out.1 h).2.2.2.1; cases this
      go_wp2
      go_ret
      exact RetIff.no 4 (by decide) Hn.out HW2.out
    | true =>
    cases he : ym.toList.isEmpty with
    | true =>
      have Hy : RowKit.Hid PA := HD.out.2 ⟨HQ1.out, by first | rfl | trivial, HPPT.out, by first | rfl | trivial, HMK.out.2 (fun h => by rw [he] at h; cases h)⟩
      have hee : ym.toList = [] := List.isEmpty_iff.1 he
      go_wp2
      go_loopg [6] 0 (fun gg s6 wr => ∃ k : Nat, k ≤ 0 ∧ 0 - k ≤ gg ∧ s6 = .int .i64 k ∧ Aside (Grew ((w.alloc (.cells [rv, .slice (some ⟨b, off, none⟩) l.length c].toArray 51)).alloc (.cells [.int .i64 yi, .int .i64 yp, .int .i64 yl, .string yt, .string ym].toArray 57)) wr))
      case atStart => exact ⟨0, by omega, by omega, rfl, (show Aside _ from HG2.out)⟩
      case round =>
        obtain ⟨k, hk, hgk, rfl, BW⟩ := hrel
        obtain rfl : k = 0 := by omega
        go_wp2
        go_ret
        exact RetIff.yes Hy.out (HGB.out.trans BW.out)
    | false =>
      have hem : (!ym.toList.isEmpty) = true := by simp [he]
      have hne : ¬ ym.toList = [] := fun h => by rw [h] at he; cases he
      have HMI : RowKit.Hid (PM ↔ q4 = true ∧ q5 = false) := ⟨fun h => HMK.out.1 h he, fun h => HMK.out.2 (fun _ => h)⟩
      go_wp2_with fail
      refine (KM.out _).mono ?_
      rintro e w3 ⟨rfl, g3⟩
      have HG3 := Lib.hid (HG2.out.trans g3)
      have HW3 := Lib.hid (HW2.out.trans g3)
      clear g3 m4
      dsimp only
      cases q4 with
      | false =>
        have Hn : RowKit.Hid (¬ PA) := fun h => by have := (HMI.out.1 (HD.out.1 h).2.2.2.2).1; cases this
        go_wp2
        go_ret
        exact RetIff.no 1 (by decide) Hn.out HW3.out
      | true =>
      have HY5 : RowKit.Hid (q5 = false → PA) := fun h => HD.out.2 ⟨HQ1.out, by first | rfl | trivial, HPPT.out, by first | rfl | trivial, HMI.out.2 ⟨by first | rfl | trivial, h⟩⟩
      have HN5 : RowKit.Hid (q5 = true → ¬ PA) := fun h h2 => by have := (HMI.out.1 (HD.out.1 h2).2.2.2.2).2; rw [h] at this; cases this
      go_wp2
      go_loopg [6] 0 (fun gg s6 wr => ∃ k : Nat, k ≤ 0 ∧ 0 - k ≤ gg ∧ s6 = .int .i64 k ∧ Aside (Grew ((w.alloc (.cells [rv, .slice (some ⟨b, off, none⟩) l.length c].toArray 51)).alloc (.cells [.int .i64 yi, .int .i64 yp, .int .i64 yl, .string yt, .string ym].toArray 57)) wr) ∧ Aside (∀ j (h : j < l.length), j < k → (l[j].mark.toList == ym.toList) = false))
      case atStart => exact ⟨0, by omega, by omega, rfl, (show Aside _ from HG3.out), (show Aside _ from fun j h h2 => absurd h2 (Nat.not_lt_zero _))⟩
      case round =>
        obtain ⟨k, hk, hgk, rfl, BW, -⟩ := hrel
        obtain rfl : k = 0 := by omega
        have H5 : RowKit.Hid (q5 = false) := by
          show q5 = false
          rw [← Bool.not_eq_true]
          intro h
          obtain ⟨j, hj, hji, he⟩ := HUM.out.1 h
          omega
        have Hy := Lib.hid (HY5.out H5.out)
        go_wp2
        go_ret
        exact RetIff.yes Hy.out (HGB.out.trans BW.out)
  · have hkz : (0 : Int) < (i : Int) := by omega
    have hki : (0 : Int) ≤ (i : Int) - 1 := by omega
    have hki3 : (1 : Int) ≤ (i : Int) := by omega
    have hki2 : (i : Int) - 1 < (l.length : Int) := by omega
    have hkt : ((i : Int) - 1).toNat = i - 1 := by omega
    have hz' : decide (yi ≤ z) = false := by simp; omega
    have d0 := hcz ((w.alloc (.cells [rv, .slice (some ⟨b, off, none⟩) l.length c].toArray 51)).alloc (.cells [.int .i64 yi, .int .i64 yp, .int .i64 yl, .string yt, .string ym].toArray 57)) HGB.out
    clear hcz hz
    go_enter Tryz.func131, Tryz.ntmps131
    go_wp2_with fail
    refine (KL.out _).mono ?_
    rintro e w1 ⟨rfl, rfl⟩
    dsimp only
    have hwr : IntKind.i64.wrap ((i : Int) - 1) = (i : Int) - 1 := IntWalk.i64_in _ (by omega)
    go_wp2
    go_quiet (fail)
    clear hwr d0
    go_wp2_with fail
    refine (KN.out _).mono ?_
    rintro e w2 ⟨rfl, g2⟩
    have HG2 := Lib.hid ((Grew.drewN (Grew.refl _) _).trans g2)
    have HW2 := Lib.hid ((Grew.drewN HGB.out _).trans g2)
    have m4 := newer_cell HG2.out 4 _ rfl
    clear g2
    dsimp only
    cases q3 with
    | false =>
      have Hn : RowKit.Hid (¬ PA) := fun h => by have := (HD.out.1 h).2.2.2.1; cases this
      go_wp2
      go_ret
      exact RetIff.no 4 (by decide) Hn.out HW2.out
    | true =>
    cases he : ym.toList.isEmpty with
    | true =>
      have Hy : RowKit.Hid PA := HD.out.2 ⟨HQ1.out, by first | rfl | trivial, HPPT.out, by first | rfl | trivial, HMK.out.2 (fun h => by rw [he] at h; cases h)⟩
      have hee : ym.toList = [] := List.isEmpty_iff.1 he
      go_wp2
      go_loopg [6] i (fun gg s6 wr => ∃ k : Nat, k ≤ i ∧ i - k ≤ gg ∧ s6 = .int .i64 k ∧ Aside (Grew ((w.alloc (.cells [rv, .slice (some ⟨b, off, none⟩) l.length c].toArray 51)).alloc (.cells [.int .i64 yi, .int .i64 yp, .int .i64 yl, .string yt, .string ym].toArray 57)) wr))
      case atStart => exact ⟨0, by omega, by omega, rfl, (show Aside _ from HG2.out)⟩
      case round =>
        obtain ⟨k, hk, hgk, rfl, BW⟩ := hrel
        have m4 := newer_cell BW.out 4 _ rfl
        by_cases hlt : k < i
        · have hltz : (k : Int) < (i : Int) := by omega
          go_wp2
          go_quiet (fail)
          clear m4
          go_wp2
          go_roundg (i - (k + 1))
          case measure => omega
          case rel => exact ⟨k + 1, by omega, by omega, by go_num, (show Aside _ from BW.out.drewN _)⟩
        · have hltz : ¬ (k : Int) < (i : Int) := by omega
          clear m4
          go_wp2
          go_ret
          exact RetIff.yes Hy.out (HGB.out.trans BW.out)
    | false =>
      have hem : (!ym.toList.isEmpty) = true := by simp [he]
      have hne : ¬ ym.toList = [] := fun h => by rw [h] at he; cases he
      have HMI : RowKit.Hid (PM ↔ q4 = true ∧ q5 = false) := ⟨fun h => HMK.out.1 h he, fun h => HMK.out.2 (fun _ => h)⟩
      go_wp2_with fail
      refine (KM.out _).mono ?_
      rintro e w3 ⟨rfl, g3⟩
      have HG3 := Lib.hid (HG2.out.trans g3)
      have HW3 := Lib.hid (HW2.out.trans g3)
      clear g3 m4
      dsimp only
      cases q4 with
      | false =>
        have Hn : RowKit.Hid (¬ PA) := fun h => by have := (HMI.out.1 (HD.out.1 h).2.2.2.2).1; cases this
        go_wp2
        go_ret
        exact RetIff.no 1 (by decide) Hn.out HW3.out
      | true =>
      have HY5 : RowKit.Hid (q5 = false → PA) := fun h => HD.out.2 ⟨HQ1.out, by first | rfl | trivial, HPPT.out, by first | rfl | trivial, HMI.out.2 ⟨by first | rfl | trivial, h⟩⟩
      have HN5 : RowKit.Hid (q5 = true → ¬ PA) := fun h h2 => by have := (HMI.out.1 (HD.out.1 h2).2.2.2.2).2; rw [h] at this; cases this
      go_wp2
      go_loopg [6] i (fun gg s6 wr => ∃ k : Nat, k ≤ i ∧ i - k ≤ gg ∧ s6 = .int .i64 k ∧ Aside (Grew ((w.alloc (.cells [rv, .slice (some ⟨b, off, none⟩) l.length c].toArray 51)).alloc (.cells [.int .i64 yi, .int .i64 yp, .int .i64 yl, .string yt, .string ym].toArray 57)) wr) ∧ Aside (∀ j (h : j < l.length), j < k → (l[j].mark.toList == ym.toList) = false))
      case atStart => exact ⟨0, by omega, by omega, rfl, (show Aside _ from HG3.out), (show Aside _ from fun j h h2 => absurd h2 (Nat.not_lt_zero _))⟩
      case round =>
        obtain ⟨k, hk, hgk, rfl, BW, M⟩ := hrel
        have m4 := newer_cell BW.out 4 _ rfl
        have t1 := tree_cell BW.out 1 _ rfl
        have GW := Lib.hid (HGB.out.trans BW.out)
        by_cases hlt : k < i
        · have hltz : (k : Int) < (i : Int) := by omega
          have hkl : k < l.length := by omega
          have hklz : (k : Int) < (l.length : Int) := by omega
          have hk0 : (0 : Int) ≤ (k : Int) := by omega
          have d4 := HMC.out k hkl _ GW.out
          have HH : RowKit.Hid ((l[k].mark.toList == ym.toList) = true → q5 = true) := fun h => HUM.out.2 ⟨k, hkl, hlt, h⟩
          have HN : RowKit.Hid ((l[k].mark.toList == ym.toList) = false → ∀ j (h : j < l.length), j < k + 1 → (l[j].mark.toList == ym.toList) = false) := fun h j hj h2 => by
            by_cases e : j = k
            · subst e; exact h
            · exact M.out j hj (by omega)
          generalize l[k].mark = mk at d4 HH HN
          cases hb : (mk.toList == ym.toList) with
          | true =>
            have Hn := Lib.hid (HN5.out (HH.out hb))
            clear HH HN M
            go_wp2
            go_quiet (fail)
            clear m4 t1 d4
            go_wp2
            go_ret
            exact RetIff.no 19 (by decide) Hn.out (GW.out.drewN _)
          | false =>
            have Hy := Lib.hid (HN.out hb)
            clear HH HN M
            go_wp2
            go_quiet (fail)
            clear m4 t1 d4
            go_wp2
            go_roundg (i - (k + 1))
            case measure => omega
            case rel => exact ⟨k + 1, by omega, by omega, by go_num, (show Aside _ from BW.out.drewN _), (show Aside _ from Hy.out)⟩
        · have hltz : ¬ (k : Int) < (i : Int) := by omega
          have H5 : RowKit.Hid (q5 = false) := by
            show q5 = false
            rw [← Bool.not_eq_true]
            intro h
            obtain ⟨j, hj, hji, he⟩ := HUM.out.1 h
            rw [M.out j hj (by omega)] at he
            cases he
          have Hy := Lib.hid (HY5.out H5.out)
          clear m4 t1 M
          go_wp2
          go_ret
          exact RetIff.yes Hy.out GW.out
end Go.Proofs.YtfghbendiofbeaaGreatDoor

/- The children of a unit as the reference asks for them, plainly: the same as the sorted list. No condition. -/
namespace Go.Proofs.YtfghbendiofbeaaGreatDoor
open Go.RowKit

/-- What the reference asks of a list of children. -/
def KidsOk (l : List Br) (ks : List Int) (p : Int) : Prop := (∀ i (h : i < ks.length), (∃ b, brFind l ks[i] = some b ∧ b.parent = p) ∧ ∀ j (hj : j < ks.length), j < i → ks[j] ≠ ks[i]) ∧ (kidsOf l p).length = ks.length
theorem asc_sub_len : ∀ {a b : List Int}, Asc a → Asc b → (∀ x ∈ a, x ∈ b) → a.length ≤ b.length
  | [], _, _, _, _ => Nat.zero_le _
  | x :: a, [], _, _, h => by have := h x (by simp); cases this
  | x :: a, y :: b, ha, hb, h => by
    have ha' := List.pairwise_cons.1 ha
    have hb' := List.pairwise_cons.1 hb
    have hxy : y ≤ x := by
      rcases List.mem_cons.1 (h x (by simp)) with e | hx
      · omega
      · have := hb'.1 x hx; omega
    have := asc_sub_len (a := a) (b := b) ha'.2 hb'.2 (fun z hz => by
      have h1 := ha'.1 z hz
      rcases List.mem_cons.1 (h z (List.mem_cons_of_mem _ hz)) with e | hz2
      · omega
      · exact hz2)
    simp only [List.length_cons]
    omega
theorem asc_sub_eq {a b : List Int} (ha : Asc a) (hb : Asc b) (h : ∀ x ∈ a, x ∈ b) (hl : b.length ≤ a.length) : a = b := by
  refine asc_ext ha hb (fun x => ⟨h x, fun hx => ?_⟩)
  by_cases hxa : x ∈ a
  · exact hxa
  · exfalso
    have h1 := asc_sub_len (a := insU x a) (asc_insU x a ha) hb (fun z hz => by
      rcases (mem_insU x z a).1 hz with rfl | hz
      · exact hx
      · exact h z hz)
    have h2 : ∀ (m : List Int), x ∉ m → (insU x m).length = m.length + 1 := by
      intro m
      induction m with
      | nil => intro _; rfl
      | cons y r ih =>
        intro hm
        rw [List.mem_cons, not_or] at hm
        unfold insU
        split
        · simp only [List.length_cons]; rw [ih hm.2]
        · rw [if_neg (fun e => hm.1 e.symm)]; rfl
    rw [h2 a hxa] at h1
    omega
def idsAsc (l : List Br) : Prop := l.Pairwise fun a b => a.id < b.id
theorem find_byid {l : List Br} (h : idsAsc l) {b : Br} (hb : b ∈ l) : brFind l b.id = some b := by
  obtain ⟨k, hk, rfl⟩ := List.mem_iff_getElem.1 hb
  unfold brFind
  refine List.find?_eq_some_iff_getElem.2 ⟨by simp, k, hk, rfl, fun j hj => ?_⟩
  have := List.pairwise_iff_getElem.1 h j k (by omega) hk hj
  simp
  omega
theorem find_in {l : List Br} {n : Int} {b : Br} (h : brFind l n = some b) : b ∈ l ∧ b.id = n := by
  unfold brFind at h
  exact ⟨List.mem_of_find?_eq_some h, by simpa using List.find?_some h⟩
theorem kidsOf_asc {l : List Br} (h : idsAsc l) (p : Int) : Asc (kidsOf l p) := by
  unfold kidsOf Asc
  exact List.Pairwise.map _ (fun _ _ h => h) (List.Pairwise.filter _ h)
theorem mem_kidsOf (l : List Br) (p n : Int) : n ∈ kidsOf l p ↔ ∃ b ∈ l, b.parent = p ∧ b.id = n := by
  unfold kidsOf
  simp only [List.mem_map, List.mem_filter, beq_iff_eq]
  exact ⟨fun ⟨b, ⟨h1, h2⟩, h3⟩ => ⟨b, h1, h2, h3⟩, fun ⟨b, h1, h2, h3⟩ => ⟨b, ⟨h1, h2⟩, h3⟩⟩
theorem kids_ok {l : List Br} (h : idsAsc l) (ks : List Int) (p : Int) : KidsOk l ks p ↔ sortI ks = kidsOf l p := by
  have hnd : (∀ i (h : i < ks.length), ∀ j (hj : j < ks.length), j < i → ks[j] ≠ ks[i]) ↔ ks.Nodup := by
    unfold List.Nodup
    rw [List.pairwise_iff_getElem]
    exact ⟨fun h i j hi hj hij => h j hj i hi hij, fun h i hi j hj hij => h j i hj hi hij⟩
  have hlen : (sortI ks).length = ks.length := by unfold sortI; exact List.length_mergeSort ks
  constructor
  · rintro ⟨h1, h2⟩
    have hn := hnd.1 (fun i hi => (h1 i hi).2)
    refine asc_sub_eq (sortI_asc ks hn) (kidsOf_asc h p) (fun x hx => ?_) (by omega)
    rw [mem_sortI] at hx
    obtain ⟨i, hi, rfl⟩ := List.mem_iff_getElem.1 hx
    obtain ⟨b, hb, hp⟩ := (h1 i hi).1
    have := find_in hb
    exact (mem_kidsOf l p _).2 ⟨b, this.1, hp, this.2⟩
  · intro he
    have hn : ks.Nodup := by
      have h1 : (sortI ks).Nodup := by
        rw [he]
        exact List.Pairwise.imp (fun h => by omega) (kidsOf_asc h p)
      exact (List.mergeSort_perm ks _).nodup_iff.1 h1
    refine ⟨fun i hi => ⟨?_, hnd.2 hn i hi⟩, by rw [← he, hlen]⟩
    have hm : ks[i] ∈ kidsOf l p := by rw [← he, mem_sortI]; exact List.getElem_mem hi
    obtain ⟨b, hb, hp, hid⟩ := (mem_kidsOf l p _).1 hm
    exact ⟨b, by rw [← hid]; exact find_byid h hb, hp⟩
/-- How deep a unit stands, with as many steps as there are units: never deeper than that. -/
theorem deep_mono {l : List Br} : ∀ (n : Nat) (b : Br) (d : Nat), deep l n b = some d → d ≤ n + 1 ∧ ∀ m, d ≤ m + 1 → deep l m b = some d
  | 0, b, d, h => by
    unfold deep at h
    by_cases hp : b.parent = 0
    · rw [if_pos hp] at h
      cases h
      refine ⟨by omega, fun m _ => ?_⟩
      cases m <;> simp [deep, hp]
    · rw [if_neg hp] at h; cases h
  | n + 1, b, d, h => by
    unfold deep at h
    by_cases hp : b.parent = 0
    · rw [if_pos hp] at h
      cases h
      refine ⟨by omega, fun m _ => ?_⟩
      cases m <;> simp [deep, hp]
    · rw [if_neg hp] at h
      cases hf : brFind l b.parent with
      | none => rw [hf] at h; cases h
      | some p =>
        rw [hf] at h
        simp only [Option.map_eq_some_iff] at h
        obtain ⟨e, he, rfl⟩ := h
        obtain ⟨h1, h2⟩ := deep_mono n p e he
        refine ⟨by omega, fun m hm => ?_⟩
        obtain ⟨m', rfl⟩ : ∃ m', m = m' + 1 := by
          cases m with
          | zero =>
            exfalso
            have : 1 ≤ e := by
              cases n with
              | zero => unfold deep at he; split at he <;> simp at he; omega
              | succ n => unfold deep at he; split at he
                          · simp at he; omega
                          · cases hf2 : brFind l p.parent with
                            | none => rw [hf2] at he; cases he
                            | some q => rw [hf2] at he; simp only [Option.map_eq_some_iff] at he; obtain ⟨_, _, rfl⟩ := he; omega
            omega
          | succ m' => exact ⟨m', rfl⟩
        unfold deep
        rw [if_neg hp, hf]
        show (deep l m' p).map (· + 1) = _
        rw [h2 m' (by omega)]
        rfl
/-- The way up as the reference goes it: nothing where it does not end within so many units. -/
def upW (l : List Br) : Nat → Br → Option (List Int)
  | 0, _ => none
  | n + 1, b => if b.parent = 0 then some [b.id] else match brFind l b.parent with
    | none => some [b.id]
    | some p => (upW l n p).map (b.id :: ·)
def pathW (l : List Br) (b : Br) : List Int := match upW l l.length b with
  | none => []
  | some ids => ids.reverse
/-- Every unit stands below one that is there. -/
def upOk (l : List Br) : Prop := ∀ b ∈ l, b.parent = 0 ∨ ∃ p, brFind l b.parent = some p
theorem upW_deep {l : List Br} (hu : upOk l) : ∀ (n : Nat) (b : Br), b ∈ l → upW l (n + 1) b = (deep l n b).map fun _ => upIds l n b
  | 0, b, hb => by
    unfold upW deep
    by_cases hp : b.parent = 0
    · simp [hp, upIds]
    · rw [if_neg hp, if_neg hp]
      rcases hu b hb with h | ⟨p, h⟩
      · exact absurd h hp
      · rw [h]
        simp [upW]
  | n + 1, b, hb => by
    unfold upW deep
    by_cases hp : b.parent = 0
    · simp [hp, upIds]
    · rw [if_neg hp, if_neg hp]
      rcases hu b hb with h | ⟨p, h⟩
      · exact absurd h hp
      · rw [h]
        show (upW l (n + 1) p).map (b.id :: ·) = ((deep l n p).map (· + 1)).map fun _ => upIds l (n + 1) b
        rw [upW_deep hu n p (find_in h).1, upIds_up l n b p hp h]
        cases deep l n p <;> rfl
theorem up_deep_len {l : List Br} : ∀ (n : Nat) (b : Br) (d : Nat), deep l n b = some d → (upIds l n b).length = d
  | 0, b, d, h => by
    unfold deep at h
    by_cases hp : b.parent = 0
    · rw [if_pos hp] at h; cases h; simp [upIds]
    · rw [if_neg hp] at h; cases h
  | n + 1, b, d, h => by
    unfold deep at h
    by_cases hp : b.parent = 0
    · rw [if_pos hp] at h; cases h; simp [upIds, hp]
    · rw [if_neg hp] at h
      cases hf : brFind l b.parent with
      | none => rw [hf] at h; cases h
      | some p =>
        rw [hf] at h
        simp only [Option.map_eq_some_iff] at h
        obtain ⟨e, he, rfl⟩ := h
        rw [upIds_up l n b p hp hf, List.length_cons, up_deep_len n p e he]
theorem up_below {l : List Br} (hi : idsAsc l) : ∀ (n : Nat) (b : Br) (d : Nat), b ∈ l → deep l n b = some d → (upIds l n b).Nodup ∧ ∀ x ∈ upIds l n b, ∃ c ∈ l, c.id = x ∧ ∃ e, e ≤ d ∧ deep l n c = some e
  | 0, b, d, hb, h => by
    refine ⟨by simp [upIds], fun x hx => ?_⟩
    simp only [upIds, List.mem_singleton] at hx
    exact ⟨b, hb, hx.symm, d, Nat.le_refl _, h⟩
  | n + 1, b, d, hb, h => by
    have h0 := h
    unfold deep at h
    by_cases hp : b.parent = 0
    · rw [upIds_top l _ b hp]
      refine ⟨by simp, fun x hx => ?_⟩
      rw [List.mem_singleton] at hx
      exact ⟨b, hb, hx.symm, d, Nat.le_refl _, h0⟩
    · rw [if_neg hp] at h
      cases hf : brFind l b.parent with
      | none => rw [hf] at h; cases h
      | some p =>
        rw [hf] at h
        simp only [Option.map_eq_some_iff] at h
        obtain ⟨e, he, rfl⟩ := h
        obtain ⟨h1, h2⟩ := up_below hi n p e (find_in hf).1 he
        rw [upIds_up l n b p hp hf]
        refine ⟨List.nodup_cons.2 ⟨fun hx => ?_, h1⟩, fun x hx => ?_⟩
        · obtain ⟨c, hc, hci, e', hle, hd⟩ := h2 _ hx
          have hcb : c = b := by
            have a1 := find_byid hi hc
            have a2 := find_byid hi hb
            rw [hci, a2] at a1
            exact (Option.some.inj a1).symm
          subst hcb
          have h3 := (deep_mono n c e' hd).2 (n + 1) (by have := (deep_mono n c e' hd).1; omega)
          rw [h3] at h0
          have := Option.some.inj h0
          omega
        · rcases List.mem_cons.1 hx with rfl | hx
          · exact ⟨b, hb, rfl, e + 1, Nat.le_refl _, h0⟩
          · obtain ⟨c, hc, hci, e', hle, hd⟩ := h2 _ hx
            have h3 := (deep_mono n c e' hd).2 (n + 1) (by have := (deep_mono n c e' hd).1; omega)
            exact ⟨c, hc, hci, e', by omega, h3⟩
theorem deep_le {l : List Br} (hi : idsAsc l) {n : Nat} {b : Br} {d : Nat} (hb : b ∈ l) (h : deep l n b = some d) : d ≤ l.length := by
  obtain ⟨h1, h2⟩ := up_below hi n b d hb h
  have hl := up_deep_len n b d h
  have hm : (sortI (upIds l n b)).length = (upIds l n b).length := by unfold sortI; exact List.length_mergeSort _
  have hs := asc_sub_len (a := sortI (upIds l n b)) (b := l.map Br.id) (sortI_asc _ h1) (List.Pairwise.map _ (fun _ _ h => h) hi) (fun x hx => by
    rw [mem_sortI] at hx
    obtain ⟨c, hc, hci, _⟩ := h2 x hx
    exact List.mem_map.2 ⟨c, hc, hci⟩)
  rw [List.length_map] at hs
  omega
/-- The reference's path of a unit, and how deep it stands. -/
theorem path_deep {l : List Br} (hi : idsAsc l) (hu : upOk l) {b : Br} (hb : b ∈ l) : (BrDeep l b ↔ (pathW l b).length ≠ 0 ∧ (pathW l b).length ≤ 12) ∧ (BrDeep l b → pathW l b = pathF l b) := by
  have hL : 0 < l.length := List.length_pos_of_mem hb
  obtain ⟨L, hLe⟩ : ∃ L, l.length = L + 1 := ⟨l.length - 1, by omega⟩
  have hW : pathW l b = match (deep l L b).map fun _ => upIds l L b with
      | none => []
      | some ids => ids.reverse := by
    unfold pathW
    rw [hLe, upW_deep hu L b hb]
  have hdd : ∀ d, deep l l.length b = some d → deep l L b = some d := fun d h => (deep_mono _ b d h).2 L (by have := deep_le hi hb h; omega)
  have hup : ∀ d, deep l L b = some d → deep l l.length b = some d := fun d h => (deep_mono _ b d h).2 _ (by have := (deep_mono _ b d h).1; omega)
  have hne : ∀ (n d : Nat), deep l n b = some d → d ≠ 0 := fun n d h e => by
    have h1 := up_deep_len n b d h
    cases n <;> unfold upIds at h1
    · simp at h1; omega
    · split at h1
      · simp at h1; omega
      · split at h1 <;> simp at h1 <;> omega
  constructor
  · unfold BrDeep
    rw [hW]
    constructor
    · rintro ⟨d, hd, h12⟩
      have h1 := hdd d hd
      rw [h1]
      have h2 := up_deep_len L b d h1
      have h3 := hne _ _ h1
      simp only [Option.map_some, List.length_reverse, h2]
      exact ⟨h3, h12⟩
    · rintro ⟨h0, h12⟩
      cases hd : deep l L b with
      | none => rw [hd] at h0; simp at h0
      | some d =>
        rw [hd] at h12
        simp only [Option.map_some, List.length_reverse, up_deep_len L b d hd] at h12
        exact ⟨d, hup d hd, h12⟩
  · rintro ⟨d, hd, -⟩
    have h1 := hdd d hd
    rw [hW, h1]
    show (upIds l L b).reverse = (upIds l l.length b).reverse
    congr 1
    have key : ∀ (n m : Nat) (c : Br) (e : Nat), deep l n c = some e → e ≤ m + 1 → upIds l n c = upIds l m c := by
      intro n
      induction n with
      | zero =>
        intro m c e he _
        unfold deep at he
        by_cases hp : c.parent = 0
        · rw [upIds_top l 0 c hp, upIds_top l m c hp]
        · rw [if_neg hp] at he; cases he
      | succ n ih =>
        intro m c e he hm
        by_cases hp : c.parent = 0
        · rw [upIds_top l _ c hp, upIds_top l m c hp]
        · unfold deep at he
          rw [if_neg hp] at he
          cases hf : brFind l c.parent with
          | none => rw [hf] at he; cases he
          | some p =>
            rw [hf] at he
            simp only [Option.map_eq_some_iff] at he
            obtain ⟨e', he', rfl⟩ := he
            have hpos : e' ≠ 0 := fun h => by
              have h1 := up_deep_len n p e' he'
              cases n <;> unfold upIds at h1
              · simp at h1; omega
              · split at h1
                · simp at h1; omega
                · split at h1 <;> simp at h1 <;> omega
            obtain ⟨m', rfl⟩ : ∃ m', m = m' + 1 := ⟨m - 1, by omega⟩
            rw [upIds_up l n c p hp hf, upIds_up l m' c p hp hf, ih m' p e' he' (by omega)]
    exact key L l.length b d h1 (by have := (deep_mono _ b d h1).1; omega)
end Go.Proofs.YtfghbendiofbeaaGreatDoor
