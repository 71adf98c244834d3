/- Lemmas on what the functions of the program and of the library compute: RE1. The conditions stand at each. -/
import Derived.Test.YtjaknioojpgkiaaGreatDoorQ13
import Derived.Test.YtjaknioojpgkiaaGreatDoorQ4
/- The reference's small functions on trees, walked: marks, levels, Find. No condition. -/
namespace Go.Proofs.YtjaknioojpgkiaaGreatDoor
open Go.RowKit

def okM (l : List UInt8) (i : Nat) : Prop := ∀ c, l[i]? = some c → 33 ≤ c.toNat ∧ c.toNat ≤ 126
theorem mark_rest (l : List UInt8) : allIn 33 126 l = true ↔ ∀ i, i < l.length → okM l i := by
  unfold allIn
  rw [List.all_eq_true]
  constructor
  · intro h i hi c hc
    have := h c (List.mem_of_getElem? hc)
    rw [Bool.and_eq_true, decide_eq_true_eq, decide_eq_true_eq] at this
    exact this
  · intro h c hc
    obtain ⟨i, hi, rfl⟩ := List.mem_iff_getElem.1 hc
    have := h i hi l[i] (List.getElem?_eq_getElem hi)
    rw [Bool.and_eq_true, decide_eq_true_eq, decide_eq_true_eq]
    exact this
set_option maxHeartbeats 2000000 in
theorem refMark (s : ByteArray) (w : World) (hb : s.size ≤ 9223372036854775807) : Calls Tryz.prog 246 #[.string s] w fun e w' => e = .returned (.bool (markF s.data.toList)) ∧ Grew w w' := by
  have hsd := size_data s
  have hN : markF s.data.toList = (decide (1 ≤ (s.size : Int)) && (decide ((s.size : Int) ≤ 64) && allIn 33 126 s.data.toList)) := by
    unfold markF
    rw [hsd, ← Bool.and_assoc]
    congr 1
    rw [Bool.eq_iff_iff]
    simp
    omega
  rw [hN]
  have hrest := mark_rest s.data.toList
  rw [hsd] at hrest
  generalize allIn 33 126 s.data.toList = Q at hrest ⊢
  have HRE := Lib.hid hrest
  clear hsd hN hrest
  go_enter Tryz.func246, Tryz.ntmps246
  go_wp2
  go_loop [3] (fun i => ∃ k : Nat, k ≤ s.size ∧ i = .int .i64 k ∧ Aside (∀ j, j < k → okM s.data.toList j)) (fun i => s.size - (intOf i).toNat)
  case atStart => exact ⟨0, by omega, rfl, (show Aside _ from fun j h => absurd h (Nat.not_lt_zero _))⟩
  case round =>
    obtain ⟨k, hk, rfl, M⟩ := hrel
    by_cases hlt : k < s.size
    case neg =>
      have hltz : ¬ (k : Int) < (s.size : Int) := by omega
      have hQ : Q = true := HRE.out.2 (fun i hi => M.out i (by omega))
      subst hQ
      cases a1 : decide (1 ≤ (s.size : Int)) <;> cases a2 : decide ((s.size : Int) ≤ 64)
      all_goals
        go_wp2
        go_ret
        exact ⟨rfl, Grew.refl w⟩
    have hltz : (k : Int) < (s.size : Int) := by omega
    have h0z : (0 : Int) ≤ (k : Int) := by omega
    have hck := data_at s k hlt
    have HBAD : RowKit.Hid (¬ okM s.data.toList k → Q = false) := fun h => by
      rw [← Bool.not_eq_true, HRE.out]
      exact fun h2 => h (h2 k hlt)
    have HS : RowKit.Hid (okM s.data.toList k → ∀ j, j < k + 1 → okM s.data.toList j) := fun h j hj => by
      by_cases e : j = k
      · subst e; exact h
      · exact M.out j (by omega)
    have HOK : RowKit.Hid (okM s.data.toList k ↔ 33 ≤ (s[k].toNat : Int) ∧ (s[k].toNat : Int) ≤ 126) := by
      constructor
      · intro h
        have := h s[k] hck
        omega
      · intro h c hc
        rw [hck] at hc
        obtain rfl := Option.some.inj hc
        omega
    clear hck
    cases b1 : decide ((s[k].toNat : Int) < 33) with
    | true =>
      have hQ := HBAD.out (fun h => by have := (HOK.out.1 h).1; simp at b1; omega)
      subst hQ
      go_wp2
      go_ret
      exact ⟨by simp, Grew.refl w⟩
    | false =>
    cases b2 : decide (126 < (s[k].toNat : Int)) with
    | true =>
      have hQ := HBAD.out (fun h => by have := (HOK.out.1 h).2; simp at b2; omega)
      subst hQ
      go_wp2
      go_ret
      exact ⟨by simp, Grew.refl w⟩
    | false =>
    have Hy := Lib.hid (HS.out (HOK.out.2 (by simp at b1 b2; omega)))
    clear HBAD HS HOK M
    go_wp2
    go_round
    case rel => exact ⟨k + 1, by omega, by go_num, (show Aside _ from Hy.out)⟩
    case measure => simp [intOf]; omega
set_option maxHeartbeats 2000000 in
theorem refLevel (n : Int) (w : World) : Calls Tryz.prog 244 #[.int .i64 n] w fun e w' => e = .returned (.bool (within n 1 4)) ∧ w = w' := by
  unfold within
  cases a1 : decide (1 ≤ n) <;> cases a2 : decide (n ≤ 4)
  all_goals
    go_enter Tryz.func244, Tryz.ntmps244
    go_wp2
    go_ret
    exact ⟨rfl, rfl⟩
set_option maxHeartbeats 2000000 in
theorem refFits (p c : Int) (w : World) : Calls Tryz.prog 247 #[.int .i64 p, .int .i64 c] w fun e w' => e = .returned (.bool (fitsF p c)) ∧ w = w' := by
  have kp := refLevel p
  have kc := refLevel c
  have hf : fitsF p c = (within p 1 4 && (within c 1 4 && (decide (p < c) || ((c == 2) && (p == 2))))) := by
    unfold fitsF
    rw [Bool.and_comm (p == 2)]
  rw [hf]
  generalize within p 1 4 = q1 at kp ⊢
  generalize within c 1 4 = q2 at kc ⊢
  have KP := Lib.hid kp
  have KC := Lib.hid kc
  clear kp kc hf
  cases q1
  · go_enter Tryz.func247, Tryz.ntmps247
    go_wp2_with fail
    refine (KP.out _).mono ?_
    rintro e w1 ⟨rfl, rfl⟩
    dsimp only
    go_wp2
    go_ret
    exact ⟨by simp, rfl⟩
  cases q2
  · go_enter Tryz.func247, Tryz.ntmps247
    go_wp2_with fail
    refine (KP.out _).mono ?_
    rintro e w1 ⟨rfl, rfl⟩
    dsimp only
    go_wp2_with fail
    refine (KC.out _).mono ?_
    rintro e w1 ⟨rfl, rfl⟩
    dsimp only
    go_wp2
    go_ret
    exact ⟨by simp, rfl⟩
  cases a1 : decide (p < c) <;> cases a2 : (c == 2) <;> cases a3 : (p == 2)
  all_goals
    go_enter Tryz.func247, Tryz.ntmps247
    go_wp2_with fail
    refine (KP.out _).mono ?_
    rintro e w1 ⟨rfl, rfl⟩
    dsimp only
    go_wp2_with fail
    refine (KC.out _).mono ?_
    rintro e w1 ⟨rfl, rfl⟩
    dsimp only
    go_wp2
    go_ret
    exact ⟨rfl, rfl⟩
theorem brFind_hit {l : List Br} {id : Int} {k : Nat} (h : k < l.length) (hb : ∀ j (hj : j < l.length), j < k → ¬ l[j].id = id) (he : l[k].id = id) : brFind l id = some l[k] := by
  unfold brFind
  exact List.find?_eq_some_iff_getElem.2 ⟨by simpa using he, k, h, rfl, fun j hj => by simpa using hb j (by omega) hj⟩
theorem brFind_miss {l : List Br} {id : Int} (hb : ∀ j (hj : j < l.length), ¬ l[j].id = id) : brFind l id = none := by
  unfold brFind
  rw [List.find?_eq_none]
  intro x hx
  obtain ⟨j, hj, rfl⟩ := List.mem_iff_getElem.1 hx
  simpa using hb j hj
set_option maxHeartbeats 4000000 in
theorem refFind19 (l : List Br) (id : Int) (rv bv : Value) (w : World) (hv : SlBr w bv l) : Calls Tryz.prog 61 #[.agg #[rv, bv], .int .i64 id] w (TFindEnd (brFind l id) w) := by
  obtain ⟨A, c, rfl, hlc, hc, hr⟩ := hv.open_
  unfold maxLen at hc
  have HR := Lib.hid hr
  have HF1 := Lib.hid (fun k => @brFind_hit l id k)
  have HF2 := Lib.hid (@brFind_miss l id)
  generalize brFind l id = O at HF1 HF2 ⊢
  clear hr hv
  go_enter Tryz.func61, Tryz.ntmps61
  go_wp2
  go_loop [6] (fun i => ∃ k : Nat, k ≤ l.length ∧ i = .int .i64 k ∧ Aside (∀ j (hj : j < l.length), j < k → ¬ l[j].id = id)) (fun i => l.length - (intOf i).toNat)
  case atStart => exact ⟨0, by omega, rfl, (show Aside _ from fun j h h2 => absurd h2 (Nat.not_lt_zero _))⟩
  case round =>
    obtain ⟨k, hk, rfl, M⟩ := hrel
    by_cases hlt : k < l.length
    · have hltz : (k : Int) < (l.length : Int) := by omega
      have h0z : (0 : Int) ≤ (k : Int) := by omega
      obtain ⟨b, off, rfl, hb, hcell⟩ := HR.out (by omega)
      obtain ⟨kv, -, hcl⟩ := hcell k hlt
      obtain ⟨c0, c1, c2, c3, c4, -⟩ := hcl _ (((Grew.refl w).alloc (.cells #[rv, .slice (some ⟨b, off, none⟩) l.length c] 25)).alloc (.cells #[.int .i64 0, .int .i64 0, .int .i64 0, .string ⟨#[]⟩, .string ⟨#[]⟩] 54))
      have HS := Lib.hid (HF1.out k hlt M.out)
      have HN : RowKit.Hid (¬ l[k].id = id → ∀ j (hj : j < l.length), j < k + 1 → ¬ l[j].id = id) := fun h j hj h2 => by
        by_cases e : j = k
        · subst e; exact h
        · exact M.out j hj (by omega)
      generalize l[k] = y at c0 c1 c2 c3 c4 HS HN
      obtain ⟨yi, yp, yl, yt, ym, yk⟩ := y
      dsimp only at c0 c1 c2 c3 c4 HS HN
      clear hcell hcl
      by_cases he : yi = id
      · have hO := HS.out he
        have he' : (yi == id) = true := by simpa using he
        subst hO
        clear he HS HN M HF1 HF2
        go_wp2
        refine bodyPost_ret (v := .tuple #[.agg #[.int .i64 yi, .int .i64 yp, .int .i64 yl, .string yt, .string ym], .bool true]) (by simp [results, Tryz.results61, go_sem]) rfl ⟨rfl, ?_⟩
        repeat (with_reducible refine Grew.setCell ?_ (by simp) _)
        exact ((Grew.refl w).alloc _).alloc _
      · have he' : (yi == id) = false := by simpa using he
        have Hy := Lib.hid (HN.out he)
        clear he HS HN M
        go_wp2
        go_round
        case rel => exact ⟨k + 1, by omega, by go_num, (show Aside _ from Hy.out)⟩
        case measure => simp [intOf]; omega
    · have hltz : ¬ (k : Int) < (l.length : Int) := by omega
      have hO := HF2.out (fun j hj => M.out j hj (by omega))
      subst hO
      clear HF1 HF2 M
      go_wp2
      refine bodyPost_ret (v := .tuple #[.agg #[.int .i64 0, .int .i64 0, .int .i64 0, .string ⟨#[]⟩, .string ⟨#[]⟩], .bool false]) (by simp [results, Tryz.results61, go_sem]) rfl ⟨rfl, ?_⟩
      repeat (with_reducible refine Grew.setCell ?_ (by simp) _)
      exact ((Grew.refl w).alloc _).alloc _
end Go.Proofs.YtjaknioojpgkiaaGreatDoor
