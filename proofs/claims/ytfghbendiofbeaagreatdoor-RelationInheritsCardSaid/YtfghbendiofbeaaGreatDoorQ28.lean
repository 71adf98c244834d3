/- Lemmas on what the functions of the program and of the library compute: RC1, RA1, RA2, RA3, RA4. The conditions stand at each. -/
import Derived.Test.YtfghbendiofbeaaGreatDoorQ27
import Derived.Test.YtfghbendiofbeaaGreatDoorQ10
import Derived.Test.YtfghbendiofbeaaGreatDoorQ6
import Derived.Test.YtfghbendiofbeaaGreatDoorQ8
import Derived.Test.YtfghbendiofbeaaGreatDoorQ14
/- The reference's Insert into an ascending list of numbers, walked. The condition: the list is short. -/
namespace Go.Proofs.YtfghbendiofbeaaGreatDoor
open Go.RowKit

def RetI (l : List Int) (w : World) (e : Ending) (w' : World) : Prop := ∃ v, e = .returned v ∧ SlI w' v l ∧ Grew w w'
theorem ins_done {w : World} {base : Nat} {v : Value} {p q : List Int} {x : Int} {m : Nat} (h : w.ownsRow base 3 1 v m ([] ++ p.flatMap oneI ++ [.int .i64 x] ++ q.flatMap oneI)) : SlI w v (p ++ x :: q) := by
  have e : ([] ++ p.flatMap oneI ++ [.int .i64 x] ++ q.flatMap oneI) = (p ++ x :: q).flatMap oneI := by simp [oneI]
  rw [e] at h
  exact Rd.of_own h
set_option maxHeartbeats 8000000 in
set_option maxRecDepth 100000 in
theorem refInsert (l : List Int) (n : Int) (v : Value) (w : World) (hv : SlI w v l) (hl : l.length ≤ 1000000) : Calls Tryz.prog 69 #[v, .int .i64 n] w (RetI (insU n l) w) := by
  have HV := Lib.hid hv
  obtain ⟨A, c, rfl, hlc, hc, hr⟩ := hv.open_
  unfold maxLen at hc
  have HR := Lib.hid hr
  obtain ⟨k0, hk0, hx0, hx1, hx2⟩ := info_parts cinfoI
  have HI1 := Lib.hid (insU_at n l)
  have HI2 := Lib.hid (insU_in n l)
  generalize insU n l = R at HI1 HI2 ⊢
  clear hr hv
  go_enter Tryz.func69, Tryz.ntmps69
  go_wp2
  go_loop [5] (fun i => ∃ k : Nat, k ≤ l.length ∧ i = .int .i64 k ∧ Aside (∀ j (hj : j < l.length), j < k → l[j] < n)) (fun i => l.length - (intOf i).toNat)
  case atStart => exact ⟨0, by omega, rfl, (show Aside _ from fun j h h2 => absurd h2 (Nat.not_lt_zero _))⟩
  case round =>
    obtain ⟨k, hk, rfl, M⟩ := hrel
    have h0z : (0 : Int) ≤ (k : Int) := by omega
    by_cases hin : ∃ h : k < l.length, l[k] ≤ n
    · obtain ⟨hlt, hle⟩ := hin
      have hltz : (k : Int) < (l.length : Int) := by omega
      obtain ⟨b, off, rfl, hb, hcell⟩ := HR.out (by omega)
      have c0 := hcell _ (Grew.refl w) k hlt
      have HN : RowKit.Hid (l[k] < n → ∀ j (h : j < l.length), j < k + 1 → l[j] < n) := fun h j hj h2 => by
        by_cases e : j = k
        · subst e; exact h
        · exact M.out j hj (by omega)
      have HS := Lib.hid (HI2.out k hlt M.out)
      generalize l[k] = y at c0 HN HS hle
      clear hcell
      by_cases he : y = n
      · have he' : (y == n) = true := by simpa using he
        have hy : decide (y < n) = false := by simp; omega
        have hR := HS.out he
        subst hR
        clear HN HS he hle M HI1 HI2
        go_wp2
        go_ret
        exact ⟨_, rfl, HV.out, Grew.refl _⟩
      · have hy : decide (y < n) = true := by simp; omega
        have Hy := Lib.hid (HN.out (by omega))
        clear HN HS he M HI1 HI2
        go_wp2
        go_round
        case rel => exact ⟨k + 1, by omega, by go_num, (show Aside _ from Hy.out)⟩
        case measure => simp [intOf]; omega
    have hR := HI1.out k hk M.out (fun h => by by_cases e : l[k] ≤ n; · exact absurd ⟨h, e⟩ hin
                                               · omega)
    subst hR
    clear HI1 HI2 M
    have hsz1 : 0 < 1 := by omega
    have e1 := part_to Tryz.underlying43 hk0 A l.length c k hk hlc
    have e2 := part_from Tryz.underlying43 hk0 hx1 A l.length c k hk
    have HP : RowKit.Hid (∀ W, Grew w W → Rd W 1 (.slice A k c) ((l.take k).flatMap oneI)) := fun W hW => by
      have h := preV_rd (Rd.mono HV.out hW) hk
      rw [(flat_take (f := oneI) (k := 1) (fun _ => rfl) l k).1] at h
      exact h
    have HS : RowKit.Hid (∀ W, Grew w W → Rd W 1 (sufV A l.length c k 1) ((l.drop k).flatMap oneI)) := fun W hW => by
      have h := sufV_rd (Rd.mono HV.out hW) hk
      rw [(flat_take (f := oneI) (k := 1) (fun _ => rfl) l k).2] at h
      exact h
    generalize sufV A l.length c k 1 = V2 at e2 HS
    have hpl : ((l.take k).flatMap oneI).length = k * 1 := by rw [flatMap_len oneI 1 (fun _ => rfl), List.length_take, Nat.min_eq_left hk]
    have hsl : ((l.drop k).flatMap oneI).length = (l.length - k) * 1 := by rw [flatMap_len oneI 1 (fun _ => rfl), List.length_drop]
    have hp63 : 0 + k ≤ maxLen := by unfold maxLen; omega
    have hpb : (0 + k) * 8 ≤ 140737488355328 := by omega
    have hq63 : 0 + k + 1 ≤ maxLen := by unfold maxLen; omega
    have hqb : (0 + k + 1) * 8 ≤ 140737488355328 := by omega
    have hs63 : 0 + k + 1 + (l.length - k) ≤ maxLen := by unfold maxLen; omega
    have hsb : (0 + k + 1 + (l.length - k)) * 8 ≤ 140737488355328 := by omega
    have hone : ∀ u ∈ [Value.int .i64 n], u.oneCell' = true := by simp [Value.oneCell']
    have HPL := Lib.hid hpl
    have HSL := Lib.hid hsl
    clear hpl hsl
    have hcase : (k < l.length ∧ ∃ b off, A = some ⟨b, off, none⟩ ∧ ∃ y, n < y ∧ w.cell? ⟨b, off + k, none⟩ = some (.int .i64 y)) ∨ ¬ k < l.length := by
      by_cases hlt : k < l.length
      · obtain ⟨b, off, hA, hb, hcell⟩ := HR.out (by omega)
        exact .inl ⟨hlt, b, off, hA, l[k], by by_cases e : l[k] ≤ n; · exact absurd ⟨hlt, e⟩ hin
                                              · omega, hcell _ (Grew.refl w) k hlt⟩
      · exact .inr hlt
    clear hin
    rcases hcase with ⟨hlt, b, off, rfl, y, hy, c0⟩ | hge
    · have hltz : (k : Int) < (l.length : Int) := by omega
      have hy1 : decide (y < n) = false := by simp; omega
      have hy2 : (y == n) = false := by simp; omega
      clear hlt hy
      go_wp2_with fail
      clear c0 hy1 hy2
      go_region_law (first | (refine stepZ (o := ⟨some 37, _, _, _, _, _⟩) (by rfl) (.tmp 33) (.tmp 36) 43 (by rfl) w 3 k0 (.int .i64 0) 1 8 Tryz.underlying43 hk0 hx0 hx1 hx2 rfl hsz1 _ 0 [] (by rfl) _ (by repeat (first | exact own_lit _ (by simp) (by simp) | refine World.ownsRow.alloc ?_ _)) (by repeat (first | exact Grew.refl _ | assumption | refine Grew.setCell ?_ (by simp <;> omega) _ | refine Grew.alloc ?_ _ | refine Grew.drew ?_ | refine Grew.drewN ?_ _ | refine Grew.trans ?_ (by assumption))) _ k _ (by rfl) (HP.out _ (by repeat (first | exact Grew.refl _ | assumption | refine Grew.setCell ?_ (by simp <;> omega) _ | refine Grew.alloc ?_ _ | refine Grew.drew ?_ | refine Grew.drewN ?_ _ | refine Grew.trans ?_ (by assumption)))) HPL.out (one_cellsI _) hp63 hpb ?_; intro v1 w1 o1 g1 q1 z1; have O1 := Lib.hid o1; have G1 := Lib.hid g1; have X1 := Lib.hid q1; (try simp at z1); clear o1 g1 q1) | (refine stepZ (o := ⟨some 40, _, _, _, _, _⟩) (by rfl) (.tmp 37) (.tmp 39) 43 (by rfl) w 3 k0 (.int .i64 0) 1 8 Tryz.underlying43 hk0 hx0 hx1 hx2 rfl hsz1 _ (0 + k) ([] ++ (l.take k).flatMap oneI) (by rfl) _ (by repeat (first | exact O1.out | refine World.ownsRow.alloc ?_ _)) (by repeat (first | exact G1.out | refine Grew.alloc ?_ _ | refine Grew.drew ?_)) _ 1 [.int .i64 n] (by rfl) (by first | exact rd_lit _ rfl _ (by simp) | exact rd_block rfl (by decide) (by omega) (fun j u hu => by rcases j with _ | j <;> simp at hu; subst hu; exact X1.out _ _ (by simp) (by change some _ ≠ some _; simp))) (by simp) hone hq63 hqb ?_; intro v2 w2 o2 g2 q2 z2; have O2 := Lib.hid o2; have G2 := Lib.hid g2; clear o2 g2 q2 z2) | (refine stepZ (o := ⟨some 44, _, _, _, _, _⟩) (by rfl) (.tmp 40) (.tmp 43) 43 (by rfl) w 3 k0 (.int .i64 0) 1 8 Tryz.underlying43 hk0 hx0 hx1 hx2 rfl hsz1 _ (0 + k + 1) ([] ++ (l.take k).flatMap oneI ++ [.int .i64 n]) (by rfl) _ O2.out G2.out _ (l.length - k) _ (by rfl) (HS.out _ G2.out) HSL.out (one_cellsI _) hs63 hsb ?_; intro v3 w3 o3 g3 q3 z3; have O3 := Lib.hid o3; have G3 := Lib.hid g3; clear o3 g3 q3 z3))
      all_goals
        go_wp2_with fail
        go_ret
        exact ⟨_, rfl, ins_done O3.out, G3.out⟩
    · have hltz : ¬ (k : Int) < (l.length : Int) := by omega
      clear hge
      go_wp2_with fail
      go_region_law (first | (refine stepZ (o := ⟨some 37, _, _, _, _, _⟩) (by rfl) (.tmp 33) (.tmp 36) 43 (by rfl) w 3 k0 (.int .i64 0) 1 8 Tryz.underlying43 hk0 hx0 hx1 hx2 rfl hsz1 _ 0 [] (by rfl) _ (by repeat (first | exact own_lit _ (by simp) (by simp) | refine World.ownsRow.alloc ?_ _)) (by repeat (first | exact Grew.refl _ | assumption | refine Grew.setCell ?_ (by simp <;> omega) _ | refine Grew.alloc ?_ _ | refine Grew.drew ?_ | refine Grew.drewN ?_ _ | refine Grew.trans ?_ (by assumption))) _ k _ (by rfl) (HP.out _ (by repeat (first | exact Grew.refl _ | assumption | refine Grew.setCell ?_ (by simp <;> omega) _ | refine Grew.alloc ?_ _ | refine Grew.drew ?_ | refine Grew.drewN ?_ _ | refine Grew.trans ?_ (by assumption)))) HPL.out (one_cellsI _) hp63 hpb ?_; intro v1 w1 o1 g1 q1 z1; have O1 := Lib.hid o1; have G1 := Lib.hid g1; have X1 := Lib.hid q1; (try simp at z1); clear o1 g1 q1) | (refine stepZ (o := ⟨some 40, _, _, _, _, _⟩) (by rfl) (.tmp 37) (.tmp 39) 43 (by rfl) w 3 k0 (.int .i64 0) 1 8 Tryz.underlying43 hk0 hx0 hx1 hx2 rfl hsz1 _ (0 + k) ([] ++ (l.take k).flatMap oneI) (by rfl) _ (by repeat (first | exact O1.out | refine World.ownsRow.alloc ?_ _)) (by repeat (first | exact G1.out | refine Grew.alloc ?_ _ | refine Grew.drew ?_)) _ 1 [.int .i64 n] (by rfl) (by first | exact rd_lit _ rfl _ (by simp) | exact rd_block rfl (by decide) (by omega) (fun j u hu => by rcases j with _ | j <;> simp at hu; subst hu; exact X1.out _ _ (by simp) (by change some _ ≠ some _; simp))) (by simp) hone hq63 hqb ?_; intro v2 w2 o2 g2 q2 z2; have O2 := Lib.hid o2; have G2 := Lib.hid g2; clear o2 g2 q2 z2) | (refine stepZ (o := ⟨some 44, _, _, _, _, _⟩) (by rfl) (.tmp 40) (.tmp 43) 43 (by rfl) w 3 k0 (.int .i64 0) 1 8 Tryz.underlying43 hk0 hx0 hx1 hx2 rfl hsz1 _ (0 + k + 1) ([] ++ (l.take k).flatMap oneI ++ [.int .i64 n]) (by rfl) _ O2.out G2.out _ (l.length - k) _ (by rfl) (HS.out _ G2.out) HSL.out (one_cellsI _) hs63 hsb ?_; intro v3 w3 o3 g3 q3 z3; have O3 := Lib.hid o3; have G3 := Lib.hid g3; clear o3 g3 q3 z3))
      all_goals
        go_wp2_with fail
        go_ret
        exact ⟨_, rfl, ins_done O3.out, G3.out⟩
end Go.Proofs.YtfghbendiofbeaaGreatDoor

/- The reference's small functions on names and spans, walked. No condition. -/
namespace Go.Proofs.YtfghbendiofbeaaGreatDoor
open Go.RowKit

theorem occ2 (l : List UInt8) (j : Nat) : Lib.occAt l [32, 32] j = true ↔ l[j]? = some 32 ∧ l[j + 1]? = some 32 := by
  unfold Lib.occAt
  cases h : l.drop j with
  | nil =>
    have h1 : l[j]? = none := by rw [List.getElem?_eq_none_iff]; have := congrArg List.length h; simp at this; omega
    simp [h1]
  | cons a t =>
    have h1 : l[j]? = some a := by have := congrArg (·[0]?) h; simpa using this
    have h2 : l[j + 1]? = t[0]? := by have := congrArg (·[1]?) h; simpa using this
    rw [h1, h2]
    cases t with
    | nil => simp [List.isPrefixOf]
    | cons b u =>
      simp only [List.isPrefixOf, Bool.and_true, Bool.and_eq_true, beq_iff_eq, List.getElem?_cons_zero, Option.some.injEq]
      exact ⟨fun ⟨x, y⟩ => ⟨x.symm, y.symm⟩, fun ⟨x, y⟩ => ⟨x.symm, y.symm⟩⟩
def okB (l : List UInt8) (i : Nat) : Prop := ∀ c, l[i]? = some c → 32 ≤ c.toNat ∧ c.toNat ≤ 126 ∧ ¬ (0 < i ∧ c = 32 ∧ l[i - 1]? = some 32)
theorem name_rest (l : List UInt8) : (!Lib.contains l [32, 32] && allIn 32 126 l) = true ↔ ∀ i, i < l.length → okB l i := by
  unfold Lib.contains allIn
  rw [Bool.and_eq_true, Bool.not_eq_true', decide_eq_false_iff_not, List.all_eq_true]
  constructor
  · rintro ⟨h1, h2⟩ i hi c hc
    have hm := h2 c (List.mem_of_getElem? hc)
    rw [Bool.and_eq_true, decide_eq_true_eq, decide_eq_true_eq] at hm
    refine ⟨hm.1, hm.2, ?_⟩
    rintro ⟨h3, rfl, h5⟩
    rcases Lib.index_spec l [32, 32] with ⟨_, h6⟩ | ⟨j, h6, _⟩
    · have := h6 (i - 1) (by omega)
      rw [(occ2 l (i - 1)).2 ⟨h5, by rw [Nat.sub_add_cancel h3]; exact hc⟩] at this
      cases this
    · rw [h6] at h1; omega
  · intro h
    refine ⟨?_, fun c hc => ?_⟩
    · rcases Lib.index_spec l [32, 32] with ⟨h6, _⟩ | ⟨j, h6, h7, h8, _⟩
      · omega
      · obtain ⟨h9, h10⟩ := (occ2 l j).1 h8
        have hj : j + 1 < l.length := (List.getElem?_eq_some_iff.1 h10).1
        exact absurd ⟨by omega, rfl, by simpa using h9⟩ (h (j + 1) hj 32 h10).2.2
    · obtain ⟨i, hi, rfl⟩ := List.mem_iff_getElem.1 hc
      have := h i hi l[i] (List.getElem?_eq_getElem hi)
      rw [Bool.and_eq_true, decide_eq_true_eq, decide_eq_true_eq]
      exact ⟨this.1, this.2.1⟩
theorem data_at (s : ByteArray) (k : Nat) (h : k < s.size) : s.data.toList[k]? = some s[k] := by
  rw [List.getElem?_eq_getElem (by rw [size_data]; exact h)]; rfl
theorem eq32 (c : UInt8) : c = 32 ↔ (c.toNat : Int) = 32 := by
  rw [← UInt8.toNat_inj]
  have h2 : (32 : UInt8).toNat = 32 := rfl
  omega
theorem refSpan (fr un : Int) (w : World) : Calls Tryz.prog 85 #[.agg #[.int .i64 fr, .int .i64 un]] w fun e w' => e = .returned (.bool (spansF fr un)) ∧ Grew w w' := by
  unfold spansF
  cases a1 : decide (0 ≤ fr) <;> cases a2 : decide (fr < un) <;> cases a3 : decide (un ≤ 1048576)
  all_goals
    go_enter Tryz.func85, Tryz.ntmps85
    go_wp2
    go_ret
    exact ⟨rfl, (Grew.refl w).alloc _⟩
set_option maxHeartbeats 2000000 in
theorem refName (s : ByteArray) (w : World) : Calls Tryz.prog 167 #[.string s] w fun e w' => e = .returned (.bool (nameF s.data.toList)) ∧ Grew w w' := by
  have hsd := size_data s
  by_cases h0 : s.size < 1
  · have hN : nameF s.data.toList = false := by simp only [nameF, hsd]; rw [decide_eq_false (by omega)]; rfl
    rw [hN]
    have h0' : (s.size : Int) < 1 := by omega
    clear hsd hN
    go_enter Tryz.func167, Tryz.ntmps167
    go_wp2
    go_ret
    exact ⟨rfl, Grew.refl w⟩
  have h0' : decide ((s.size : Int) < 1) = false := by simp; omega
  by_cases h1 : 64 < s.size
  · have hN : nameF s.data.toList = false := by simp only [nameF, hsd]; rw [decide_eq_false (by omega)]; rfl
    rw [hN]
    have h1' : (64 : Int) < (s.size : Int) := by omega
    clear hsd hN
    go_enter Tryz.func167, Tryz.ntmps167
    go_wp2
    go_ret
    exact ⟨rfl, Grew.refl w⟩
  have h1' : decide ((64 : Int) < (s.size : Int)) = false := by simp; omega
  have hz0 : 0 < s.size := by omega
  have hs64 : s.size ≤ 64 := by omega
  have hz1 : s.size - 1 < s.size := by omega
  have hN : nameF s.data.toList = (!((s[0].toNat : Int) == 32) && (!((s[s.size - 1].toNat : Int) == 32) && (!Lib.contains s.data.toList [32, 32] && allIn 32 126 s.data.toList))) := by
    simp only [nameF, hsd, head_at s hz0, last_at s hz1, is32]
    rw [decide_eq_true (by omega)]
    rfl
  rw [hN]
  have hi1 : (0 : Int) ≤ (s.size : Int) - 1 := by omega
  have hi2 : (s.size : Int) - 1 < (s.size : Int) := by omega
  have hrest := name_rest s.data.toList
  rw [hsd] at hrest
  generalize (!Lib.contains s.data.toList [32, 32] && allIn 32 126 s.data.toList) = Q at hrest
  have HRE := Lib.hid hrest
  clear hsd hN h0 h1 hrest
  cases a1 : ((s[0].toNat : Int) == 32) with
  | true =>
    go_enter Tryz.func167, Tryz.ntmps167
    go_wp2
    go_ret
    exact ⟨rfl, Grew.refl w⟩
  | false =>
  cases a2 : ((s[s.size - 1].toNat : Int) == 32) with
  | true =>
    go_enter Tryz.func167, Tryz.ntmps167
    go_wp2
    go_ret
    exact ⟨rfl, Grew.refl w⟩
  | false =>
  go_enter Tryz.func167, Tryz.ntmps167
  go_wp2
  go_loop [3] (fun i => ∃ k : Nat, k ≤ s.size ∧ i = .int .i64 k ∧ Aside (∀ j, j < k → okB s.data.toList j)) (fun i => s.size - (intOf i).toNat)
  case atStart => exact ⟨0, by omega, rfl, (show Aside _ from fun j h => absurd h (Nat.not_lt_zero _))⟩
  case round =>
    obtain ⟨k, hk, rfl, M⟩ := hrel
    by_cases hlt : k < s.size
    case neg =>
      have hltz : ¬ (k : Int) < (s.size : Int) := by omega
      have hQ : Q = true := HRE.out.2 (fun i hi => M.out i (by omega))
      subst hQ
      go_wp2
      go_ret
      exact ⟨rfl, Grew.refl w⟩
    have hltz : (k : Int) < (s.size : Int) := by omega
    have h0z : (0 : Int) ≤ (k : Int) := by omega
    have HBAD : RowKit.Hid (¬ okB s.data.toList k → Q = false) := fun h => by
      rw [← Bool.not_eq_true, HRE.out]
      exact fun h2 => h (h2 k hlt)
    have HS : RowKit.Hid (okB s.data.toList k → ∀ j, j < k + 1 → okB s.data.toList j) := fun h j hj => by
      by_cases e : j = k
      · subst e; exact h
      · exact M.out j (by omega)
    have hck := data_at s k hlt
    have HOK : RowKit.Hid (okB s.data.toList k ↔ 32 ≤ (s[k].toNat : Int) ∧ (s[k].toNat : Int) ≤ 126 ∧ ¬ (0 < k ∧ (s[k].toNat : Int) = 32 ∧ ((s[k - 1]'(by omega)).toNat : Int) = 32)) := by
      have hp := data_at s (k - 1) (by omega)
      constructor
      · intro h
        have := h s[k] hck
        refine ⟨by omega, by omega, ?_⟩
        rintro ⟨h1, h2, h3⟩
        exact this.2.2 ⟨h1, (eq32 _).2 h2, by rw [hp]; congr 1; exact (eq32 _).2 h3⟩
      · rintro ⟨h1, h2, h3⟩ c hc
        rw [hck] at hc
        obtain rfl := Option.some.inj hc
        refine ⟨by omega, by omega, ?_⟩
        rintro ⟨h4, h5, h6⟩
        rw [hp] at h6
        exact h3 ⟨h4, (eq32 _).1 h5, (eq32 _).1 (Option.some.inj h6)⟩
    clear hck
    cases b1 : decide ((s[k].toNat : Int) < 32) with
    | true =>
      have hQ := HBAD.out (fun h => by have := (HOK.out.1 h).1; simp at b1; omega)
      subst hQ
      go_wp2
      go_ret
      exact ⟨rfl, Grew.refl w⟩
    | false =>
    cases b2 : decide ((126 : Int) < (s[k].toNat : Int)) with
    | true =>
      have hQ := HBAD.out (fun h => by have := (HOK.out.1 h).2.1; simp at b2; omega)
      subst hQ
      go_wp2
      go_ret
      exact ⟨rfl, Grew.refl w⟩
    | false =>
    rcases Nat.eq_zero_or_pos k with hk0 | hkpos
    · subst hk0
      have Hy := Lib.hid (HS.out (HOK.out.2 ⟨by simp at b1; omega, by simp at b2; omega, fun h => absurd h.1 (Nat.lt_irrefl _)⟩))
      clear HBAD HS HOK M
      go_wp2
      go_round
      case rel => exact ⟨1, by omega, by go_num, (show Aside _ from Hy.out)⟩
      case measure => simp [intOf]; omega
    have hkz : (0 : Int) < (k : Int) := by omega
    have hki : (0 : Int) ≤ (k : Int) - 1 := by omega
    have hki2 : (k : Int) - 1 < (s.size : Int) := by omega
    have hki3 : (1 : Int) ≤ (k : Int) := by omega
    have hkt : ((k : Int) - 1).toNat = k - 1 := by omega
    have hk1 : k - 1 < s.size := by omega
    cases b3 : ((s[k].toNat : Int) == 32) with
    | false =>
      have Hy := Lib.hid (HS.out (HOK.out.2 ⟨by simp at b1; omega, by simp at b2; omega, fun h => by have := h.2.1; simp at b3; omega⟩))
      clear HBAD HS HOK M
      go_wp2
      go_round
      case rel => exact ⟨k + 1, by omega, by go_num, (show Aside _ from Hy.out)⟩
      case measure => simp [intOf]; omega
    | true =>
    cases b4 : (((s[k - 1]'(by omega)).toNat : Int) == 32) with
    | false =>
      have Hy := Lib.hid (HS.out (HOK.out.2 ⟨by simp at b1; omega, by simp at b2; omega, fun h => by have := h.2.2; simp at b4; omega⟩))
      clear HBAD HS HOK M
      go_wp2
      go_round
      case rel => exact ⟨k + 1, by omega, by go_num, (show Aside _ from Hy.out)⟩
      case measure => simp [intOf]; omega
    | true =>
      have hQ := HBAD.out (fun h => (HOK.out.1 h).2.2 ⟨hkpos, by simpa using b3, by simpa using b4⟩)
      subst hQ
      clear HBAD HS HOK M
      go_wp2
      go_ret
      exact ⟨rfl, Grew.refl w⟩
end Go.Proofs.YtfghbendiofbeaaGreatDoor

/- The reference's check of an authority's names, walked. No condition. -/
namespace Go.Proofs.YtfghbendiofbeaaGreatDoor
open Go.RowKit

set_option maxHeartbeats 4000000 in
theorem refNames (a : Auth) (nv xv : Value) (w : World) (hn : SlN w nv a.names) :
    Calls Tryz.prog 142 #[.agg #[.int .i64 a.id, .int .i64 a.kind, .int .i64 a.fr, .int .i64 a.un, nv, xv]] w (RetIff (NamesOk a) w) := by
  obtain ⟨A, c, rfl, hlc, hc, hr⟩ := hn.open_
  unfold maxLen at hc
  have HR := Lib.hid hr
  have HP := Lib.hid (Iff.refl (NamesOk a))
  clear hr hn
  by_cases h0 : a.names.length = 0
  · have hb : ((a.names.length : Int) == 0) = true := by simp [h0]
    have Hn : RowKit.Hid (¬ NamesOk a) := fun h => by have := h.1.1; omega
    go_enter Tryz.func142, Tryz.ntmps142
    go_wp2
    go_ret
    exact RetIff.no 9 (by decide) Hn.out ((Grew.refl w).alloc _)
  have hb : ((a.names.length : Int) == 0) = false := by rw [beq_eq_false_iff_ne]; omega
  by_cases h16 : 16 < a.names.length
  · have hb2 : (16 : Int) < (a.names.length : Int) := by omega
    have Hn : RowKit.Hid (¬ NamesOk a) := fun h => by have := h.1.2; omega
    go_enter Tryz.func142, Tryz.ntmps142
    go_wp2
    go_ret
    exact RetIff.no 8 (by decide) Hn.out ((Grew.refl w).alloc _)
  have hb2 : ¬ (16 : Int) < (a.names.length : Int) := by omega
  obtain ⟨b, off, rfl, hbk, hcell⟩ := HR.out (by omega)
  have HCELL := Lib.hid hcell
  clear hcell HR
  go_enter Tryz.func142, Tryz.ntmps142
  go_wp2
  go_loopg [3] a.names.length (fun gg s wr => ∃ k : Nat, k ≤ a.names.length ∧ a.names.length - k ≤ gg ∧ s = .int .i64 k ∧ Aside (Grew (w.alloc (.cells [.int .i64 a.id, .int .i64 a.kind, .int .i64 a.fr, .int .i64 a.un, .slice (some ⟨b, off, none⟩) a.names.length c, xv].toArray 72)) wr) ∧ Aside (∀ i (h : i < a.names.length), i < k → NamOk a i h))
  case atStart => exact ⟨0, by omega, by omega, rfl, (show Aside _ from Grew.refl _), (show Aside _ from fun i h h2 => by omega)⟩
  case round =>
    obtain ⟨k, hk, hgk, rfl, BW, M⟩ := hrel
    have BW0 : Aside (Grew w wr) := ((Grew.refl w).alloc _).trans BW.out
    have n4 := new_cell BW.out 4 (.slice (some ⟨b, off, none⟩) a.names.length c) rfl
    by_cases hlt : k < a.names.length
    case neg =>
      have hltz : ¬ (k : Int) < (a.names.length : Int) := by omega
      have Hy : RowKit.Hid (NamesOk a) := ⟨⟨by omega, by omega⟩, fun i h => M.out i h (by omega)⟩
      go_wp2
      go_ret
      exact RetIff.yes Hy.out BW0.out
    have hltz : (k : Int) < (a.names.length : Int) := by omega
    have h0z : (0 : Int) ≤ (k : Int) := by omega
    obtain ⟨c0, c1, c2⟩ := HCELL.out wr BW0.out k hlt
    have HN : RowKit.Hid (¬ NamOk a k hlt → ¬ NamesOk a) := fun h h2 => h (h2.2 k hlt)
    have HY : RowKit.Hid (NamOk a k hlt → ∀ i (h : i < a.names.length), i < k + 1 → NamOk a i h) := fun h i hi h2 => by
      by_cases e : i = k
      · subst e; exact h
      · exact M.out i hi (by omega)
    have HD : RowKit.Hid (NamOk a k hlt ↔ nameF a.names[k].text.data.toList = true ∧ spansF a.names[k].fr a.names[k].un = true ∧ a.fr ≤ a.names[k].fr ∧ a.names[k].un ≤ a.un ∧ (0 < k → (a.names[k - 1]'(by omega)).un ≤ a.names[k].fr)) := Iff.rfl
    generalize NamOk a k hlt = PK at HN HY HD
    generalize hy : a.names[k] = y at c0 c1 c2 HD
    clear hy
    obtain ⟨yt, yf, yu⟩ := y
    dsimp only at c0 c1 c2 HD
    have kn := fun W (_ : Grew w W) => refName yt W
    have ks := refSpan yf yu
    generalize nameF yt.data.toList = q1 at kn HD
    generalize spansF yf yu = q2 at ks HD
    have KN := Lib.hid kn
    have KS := Lib.hid ks
    clear kn ks
    go_wp2_with fail
    have hA : Grew w (wr.alloc (.cells #[.string yt, .int .i64 yf, .int .i64 yu] 69)) := BW0.out.alloc _
    refine (KN.out _ hA).mono ?_
    rintro e w1 ⟨rfl, g1⟩
    have f1 := new_cell g1 1 (.int .i64 yf) rfl
    have f2 := new_cell g1 2 (.int .i64 yu) rfl
    have HG1 := Lib.hid g1
    have HA := Lib.hid hA
    clear g1 hA c0 c1 c2 n4
    cases q1 with
    | false =>
      have Hn := Lib.hid (HN.out (fun h => by have := (HD.out.1 h).1; cases this))
      dsimp only
      go_wp2
      go_ret
      exact RetIff.no 4 (by decide) Hn.out (HA.out.trans HG1.out)
    | true =>
    dsimp only
    go_wp2_with fail
    refine (KS.out _).mono ?_
    rintro e w2 ⟨rfl, g2⟩
    have HG2 := Lib.hid (HG1.out.trans g2)
    have HGW := Lib.hid (HA.out.trans HG2.out)
    have hz1 : wr.heap.size < w1.heap.size := Nat.lt_of_lt_of_le (by simp) HG1.out.size
    have e1 := (g2.cell (p := ⟨wr.heap.size, 1, none⟩) hz1).trans f1
    have e2 := (g2.cell (p := ⟨wr.heap.size, 2, none⟩) hz1).trans f2
    have GB : Grew (w.alloc (.cells [.int .i64 a.id, .int .i64 a.kind, .int .i64 a.fr, .int .i64 a.un, .slice (some ⟨b, off, none⟩) a.names.length c, xv].toArray 72)) w2 := (BW.out.alloc _).trans HG2.out
    have b2 := new_cell GB 2 (.int .i64 a.fr) rfl
    have b3 := new_cell GB 3 (.int .i64 a.un) rfl
    have b4 := new_cell GB 4 (.slice (some ⟨b, off, none⟩) a.names.length c) rfl
    clear f1 f2 g2 HA HG1 hz1 GB
    cases q2 with
    | false =>
      have Hn := Lib.hid (HN.out (fun h => by have := (HD.out.1 h).2.1; cases this))
      dsimp only
      go_wp2
      go_ret
      exact RetIff.no 2 (by decide) Hn.out HGW.out
    | true =>
    dsimp only
    by_cases r1 : yf < a.fr
    · have Hn := Lib.hid (HN.out (fun h => by have := (HD.out.1 h).2.2.1; omega))
      go_wp2
      go_ret
      exact RetIff.no 10 (by decide) Hn.out HGW.out
    have r1' : decide (yf < a.fr) = false := by simpa using r1
    by_cases r2 : a.un < yu
    · have Hn := Lib.hid (HN.out (fun h => by have := (HD.out.1 h).2.2.2.1; omega))
      clear r1
      go_wp2
      go_ret
      exact RetIff.no 10 (by decide) Hn.out HGW.out
    have r2' : decide (a.un < yu) = false := by simpa using r2
    rcases Nat.eq_zero_or_pos k with hk0 | hkpos
    · subst hk0
      have Hy := Lib.hid (HY.out (HD.out.2 ⟨by first | rfl | trivial, by first | rfl | trivial, by omega, by omega, fun h => absurd h (Nat.lt_irrefl _)⟩))
      clear r1 r2 HN HY HD M
      go_wp2
      go_quiet (fail)
      go_wp2
      go_roundg (a.names.length - 1)
      case measure => omega
      case rel => exact ⟨1, by omega, by omega, by go_num, (show Aside _ from ((BW.out.alloc _).trans HG2.out).drewN _), (show Aside _ from Hy.out)⟩
    · have hkz : (0 : Int) < (k : Int) := by omega
      have hki : (0 : Int) ≤ (k : Int) - 1 := by omega
      have hki2 : (k : Int) - 1 < (a.names.length : Int) := by omega
      have hki3 : (1 : Int) ≤ (k : Int) := by omega
      have hkt : ((k : Int) - 1).toNat = k - 1 := by omega
      obtain ⟨-, -, d2⟩ := HCELL.out w2 HGW.out (k - 1) (by omega)
      generalize (a.names[k - 1]'(by omega)).un = zu at d2 HD
      have hwr : IntKind.i64.wrap ((k : Int) - 1) = (k : Int) - 1 := IntWalk.i64_in _ (by omega)
      by_cases r3 : yf < zu
      · have Hn := Lib.hid (HN.out (fun h => by have := (HD.out.1 h).2.2.2.2 hkpos; omega))
        clear r1 r2 HN HY HD M
        go_wp2
        go_quiet (fail)
        clear hwr
        go_wp2
        go_ret
        exact RetIff.no 5 (by decide) Hn.out (HGW.out.drewN _)
      · have r3' : decide (yf < zu) = false := by simpa using r3
        have Hy := Lib.hid (HY.out (HD.out.2 ⟨by first | rfl | trivial, by first | rfl | trivial, by omega, by omega, fun _ => by omega⟩))
        clear r1 r2 r3 HN HY HD M
        go_wp2
        go_quiet (fail)
        clear hwr
        go_wp2
        go_roundg (a.names.length - (k + 1))
        case measure => omega
        case rel => exact ⟨k + 1, by omega, by omega, by go_num, (show Aside _ from ((BW.out.alloc _).trans HG2.out).drewN _), (show Aside _ from Hy.out)⟩
end Go.Proofs.YtfghbendiofbeaaGreatDoor

/- The reference's check of one authority, walked. No condition. -/
namespace Go.Proofs.YtfghbendiofbeaaGreatDoor
open Go.RowKit

set_option maxHeartbeats 4000000 in
theorem refOwn (l : List Auth) (i : Nat) (hi : i < l.length) (v : Value) (w : World) (hv : SlAu w v l) :
    Calls Tryz.prog 110 #[v, .int .i64 i] w (RetIff (AuAlone l i hi) w) := by
  obtain ⟨A, c, rfl, hlc, hc, hr⟩ := hv.open_
  unfold maxLen at hc
  obtain ⟨b, off, rfl, hbk, hcell⟩ := hr (by omega)
  obtain ⟨nv, xv, hn, hx, hcl⟩ := hcell i hi
  obtain ⟨c0, c1, c2, c3, c4, c5⟩ := hcl w (Grew.refl w)
  have HD : RowKit.Hid (AuAlone l i hi ↔ within l[i].id 1 1073741824 = true ∧ within l[i].kind 1 3 = true ∧ spansF l[i].fr l[i].un = true ∧ (0 < i → (l[i - 1]'(by omega)).id < l[i].id) ∧ NamesOk l[i] ∧ NextOk l[i].next) := Iff.rfl
  have HPREV : RowKit.Hid (0 < i → ∀ W, Grew w W → W.cell? ⟨b, off + (i - 1) * 6, none⟩ = some (.int .i64 (l[i - 1]'(by omega)).id)) := fun h W hW => by
    obtain ⟨_, _, _, _, hq⟩ := hcell (i - 1) (by omega)
    exact (hq W hW).1
  have kN := fun W (hW : Grew w W) => refNames l[i] nv xv W (hn.mono hW)
  have hiz : (i : Int) < (l.length : Int) := by omega
  have h0z : (0 : Int) ≤ (i : Int) := by omega
  generalize AuAlone l i hi = PA at HD ⊢
  generalize hp : (0 < i → (l[i - 1]'(by omega)).id < l[i].id) = PP at HD
  have hy : ∃ y, RowKit.Hid (l[i] = y) := ⟨_, rfl⟩
  obtain ⟨y, hy⟩ := hy
  rw [hy.out] at c0 c1 c2 c3 HD kN hx hp hn
  obtain ⟨yi, yk, yf, yu, yn, nx⟩ := y
  dsimp only at c0 c1 c2 c3 HD kN hx hp hn
  have HPP := Lib.hid hp
  obtain ⟨Ax, cx, rfl, hlx, hcx, hrx⟩ := hx.open_
  unfold maxLen at hcx
  have HRX := Lib.hid hrx
  obtain ⟨An, cn, rfl, -, -, -⟩ := hn.open_
  have HX : RowKit.Hid (NextOk nx ↔ nx.length ≤ 16 ∧ ∀ k (h : k < nx.length), 1 ≤ k → (nx[k - 1]'(by omega)) < nx[k]) := Iff.rfl
  generalize NamesOk ⟨yi, yk, yf, yu, yn, nx⟩ = PN at HD kN
  generalize NextOk nx = PX at HD HX
  have ks := refSpan yf yu
  have hq1 : within yi 1 1073741824 = true ↔ 1 ≤ yi ∧ yi ≤ 1073741824 := within_t
  have hq2 : within yk 1 3 = true ↔ 1 ≤ yk ∧ yk ≤ 3 := within_t
  generalize within yi 1 1073741824 = q1 at hq1 HD
  generalize within yk 1 3 = q2 at hq2 HD
  generalize spansF yf yu = q3 at ks HD
  have KN := Lib.hid kN
  have KS := Lib.hid ks
  have HQ1 := Lib.hid hq1
  have HQ2 := Lib.hid hq2
  clear hp kN ks hq1 hq2 hcell hcl hrx hn hx hv hr
  by_cases hgood : 1 ≤ yi ∧ yi ≤ 1073741824 ∧ 1 ≤ yk ∧ yk ≤ 3
  case neg =>
    have Hn : RowKit.Hid (¬ PA) := fun h => hgood (by have h1 := HQ1.out.1 (HD.out.1 h).1; have h2 := HQ2.out.1 (HD.out.1 h).2.1; exact ⟨h1.1, h1.2, h2.1, h2.2⟩)
    cases a1 : decide (yi < 1) <;> cases a2 : decide (1073741824 < yi) <;> cases a3 : decide (yk < 1) <;> cases a4 : decide (3 < yk)
    case' false.false.false.false => exact absurd ⟨by simp at a1; omega, by simp at a2; omega, by simp at a3; omega, by simp at a4; omega⟩ hgood
    all_goals clear hgood HQ1 HQ2
    all_goals
      go_enter Tryz.func110, Tryz.ntmps110
      go_wp2
      go_ret
      exact RetIff.no 2 (by decide) Hn.out ((Grew.refl w).alloc _)
  obtain rfl : q1 = true := HQ1.out.2 ⟨hgood.1, hgood.2.1⟩
  obtain rfl : q2 = true := HQ2.out.2 ⟨hgood.2.2.1, hgood.2.2.2⟩
  have a1 : decide (yi < 1) = false := by simp; omega
  have a2 : decide (1073741824 < yi) = false := by simp; omega
  have a3 : decide (yk < 1) = false := by simp; omega
  have a4 : decide (3 < yk) = false := by simp; omega
  clear hgood HQ1 HQ2
  go_enter Tryz.func110, Tryz.ntmps110
  go_wp2_with fail
  refine (KS.out _).mono ?_
  rintro e w1 ⟨rfl, g1⟩
  have HG1 := Lib.hid g1
  have HGW := Lib.hid (((Grew.refl w).alloc _).trans g1)
  have e0 := new_cell g1 0 _ rfl
  have e1 := new_cell g1 1 _ rfl
  have e2 := new_cell g1 2 _ rfl
  have e3 := new_cell g1 3 _ rfl
  have e4 := new_cell g1 4 _ rfl
  have e5 := new_cell g1 5 _ rfl
  clear g1 c0 c1 c2 c3 c4 c5
  cases q3 with
  | false =>
    have Hn : RowKit.Hid (¬ PA) := fun h => by have := (HD.out.1 h).2.2.1; cases this
    dsimp only
    go_wp2
    go_ret
    exact RetIff.no 2 (by decide) Hn.out HGW.out
  | true =>
  dsimp only
  have h5i := hlx
  rcases Nat.eq_zero_or_pos i with hi0 | hipos
  · have HPREVOK : RowKit.Hid PP := HPP.out ▸ (fun h => absurd h (by omega))
    have hiz0 : decide ((0 : Int) < (i : Int)) = false := by simp; omega
    subst hi0
    go_wp2
    go_quiet (fail)
    go_wp2_with fail
    refine (KN.out _ (HGW.out.drewN _)).mono ?_
    rintro e w2 ⟨n, rfl, hnn, g2⟩
    have HNN := Lib.hid hnn
    have HG2 := Lib.hid (Grew.trans (Grew.drewN HG1.out _) g2)
    have HW2 := Lib.hid (Grew.trans (Grew.drewN HGW.out _) g2)
    have f5 := new_cell HG2.out 5 _ rfl
    clear hnn g2 e0 e1 e2 e3 e4 e5 HGW HG1
    dsimp only
    by_cases hz : n = 0
    case neg =>
      have hz' : (n != 0) = true := by simpa using hz
      have Hz := Lib.hid hz
      have Hn : RowKit.Hid (¬ PA) := fun h => Hz.out (HNN.out.2 (HD.out.1 h).2.2.2.2.1)
      clear hz
      go_wp2
      go_ret
      exact RetIff.no n Hz.out Hn.out HW2.out
    subst hz
    have HPN := Lib.hid (HNN.out.1 rfl)
    clear HNN
    by_cases h16 : 16 < nx.length
    · have h16' : (16 : Int) < (nx.length : Int) := by omega
      have Hn : RowKit.Hid (¬ PA) := fun h => by have := (HX.out.1 (HD.out.1 h).2.2.2.2.2).1; omega
      go_wp2
      go_ret
      exact RetIff.no 8 (by decide) Hn.out HW2.out
    have h16' : ¬ (16 : Int) < (nx.length : Int) := by omega
    go_wp2
    go_loopg [7] nx.length (fun gg s7 wr => ∃ k : Nat, 1 ≤ k ∧ nx.length - k ≤ gg ∧ s7 = .int .i64 k ∧ k ≤ 17 ∧ Aside (Grew w2 wr) ∧ Aside (∀ j (h : j < nx.length), 1 ≤ j → j < k → (nx[j - 1]'(by omega)) < nx[j]))
    case atStart => exact ⟨1, by omega, by omega, rfl, by omega, (show Aside _ from Grew.refl _), (show Aside _ from fun j h h1 h2 => by omega)⟩
    case round =>
      obtain ⟨k, hk1, hgk, rfl, hk17, BW, M⟩ := hrel
      have g5 := (BW.out.cell (p := ⟨w.heap.size, 5, none⟩) (World.block_lt_of_cell? w2 _ f5)).trans f5
      by_cases hlt : k < nx.length
      case neg =>
        have hltz : ¬ (k : Int) < (nx.length : Int) := by omega
        have Hx : RowKit.Hid PX := HX.out.2 ⟨by omega, fun j h h1 => M.out j h h1 (by omega)⟩
        have Hy : RowKit.Hid PA := HD.out.2 ⟨by first | rfl | trivial, by first | rfl | trivial, by first | rfl | trivial, HPREVOK.out, HPN.out, Hx.out⟩
        go_wp2
        go_ret
        exact RetIff.yes Hy.out (HW2.out.trans BW.out)
      have hltz : (k : Int) < (nx.length : Int) := by omega
      have h0k : (0 : Int) ≤ (k : Int) := by omega
      have hki : (0 : Int) ≤ (k : Int) - 1 := by omega
      have hki2 : (k : Int) - 1 < (nx.length : Int) := by omega
      have hki3 : (1 : Int) ≤ (k : Int) := by omega
      have hkt : ((k : Int) - 1).toNat = k - 1 := by omega
      obtain ⟨bx, ox, rfl, hbx, hcx2⟩ := HRX.out (by omega)
      have d1 := hcx2 wr (HW2.out.trans BW.out) k hlt
      have d2 := hcx2 wr (HW2.out.trans BW.out) (k - 1) (by omega)
      have HS : RowKit.Hid ((nx[k - 1]'(by omega)) < nx[k] → ∀ j (h : j < nx.length), 1 ≤ j → j < k + 1 → (nx[j - 1]'(by omega)) < nx[j]) := fun h j hj h1 h2 => by
        by_cases e : j = k
        · subst e; exact h
        · exact M.out j hj h1 (by omega)
      have HB : RowKit.Hid (¬ (nx[k - 1]'(by omega)) < nx[k] → ¬ PA) := fun h h2 => h ((HX.out.1 (HD.out.1 h2).2.2.2.2.2).2 k hlt hk1)
      clear hcx2
      generalize nx[k - 1]'(by omega) = z1 at d2 HS HB
      generalize nx[k] = z2 at d1 HS HB
      have hwr : IntKind.i64.wrap ((k : Int) - 1) = (k : Int) - 1 := IntWalk.i64_in _ (by omega)
      by_cases r : z2 ≤ z1
      · have Hn := Lib.hid (HB.out (by omega))
        go_wp2
        go_quiet (fail)
        clear hwr
        go_wp2
        go_ret
        exact RetIff.no 5 (by decide) Hn.out ((HW2.out.trans BW.out).drewN _)
      · have r' : decide (z2 ≤ z1) = false := by simpa using r
        have Hs := Lib.hid (HS.out (by omega))
        clear HS HB r
        go_wp2
        go_quiet (fail)
        clear hwr
        go_wp2
        go_roundg (nx.length - (k + 1))
        case measure => omega
        case rel => exact ⟨k + 1, by omega, by omega, by go_num, by omega, (show Aside _ from BW.out.drewN _), (show Aside _ from Hs.out)⟩
  · have hkz : (0 : Int) < (i : Int) := by omega
    have hki : (0 : Int) ≤ (i : Int) - 1 := by omega
    have hki2 : (i : Int) - 1 < (l.length : Int) := by omega
    have hki3 : (1 : Int) ≤ (i : Int) := by omega
    have hkt : ((i : Int) - 1).toNat = i - 1 := by omega
    have d0 := HPREV.out hipos w1 HGW.out
    have hpv : PP ↔ (l[i - 1]'(by omega)).id < yi := by rw [← HPP.out]; exact ⟨fun h => h hipos, fun h _ => h⟩
    generalize (l[i - 1]'(by omega)).id = zi at d0 hpv
    have HPV := Lib.hid hpv
    clear hpv
    have hwr : IntKind.i64.wrap ((i : Int) - 1) = (i : Int) - 1 := IntWalk.i64_in _ (by omega)
    by_cases r : yi ≤ zi
    · have Hn : RowKit.Hid (¬ PA) := fun h => by have := HPV.out.1 (HD.out.1 h).2.2.2.1; omega
      go_wp2
      go_quiet (fail)
      clear hwr
      go_wp2
      go_ret
      exact RetIff.no 5 (by decide) Hn.out (HGW.out.drewN _)
    have r' : decide (yi ≤ zi) = false := by simpa using r
    have HPREVOK : RowKit.Hid PP := HPV.out.2 (by omega)
    clear r
    go_wp2
    go_quiet (fail)
    clear hwr
    go_wp2_with fail
    refine (KN.out _ (HGW.out.drewN _)).mono ?_
    rintro e w2 ⟨n, rfl, hnn, g2⟩
    have HNN := Lib.hid hnn
    have HG2 := Lib.hid (Grew.trans (Grew.drewN HG1.out _) g2)
    have HW2 := Lib.hid (Grew.trans (Grew.drewN HGW.out _) g2)
    have f5 := new_cell HG2.out 5 _ rfl
    clear hnn g2 e0 e1 e2 e3 e4 e5 HGW HG1
    dsimp only
    by_cases hz : n = 0
    case neg =>
      have hz' : (n != 0) = true := by simpa using hz
      have Hz := Lib.hid hz
      have Hn : RowKit.Hid (¬ PA) := fun h => Hz.out (HNN.out.2 (HD.out.1 h).2.2.2.2.1)
      clear hz
      go_wp2
      go_ret
      exact RetIff.no n Hz.out Hn.out HW2.out
    subst hz
    have HPN := Lib.hid (HNN.out.1 rfl)
    clear HNN
    by_cases h16 : 16 < nx.length
    · have h16' : (16 : Int) < (nx.length : Int) := by omega
      have Hn : RowKit.Hid (¬ PA) := fun h => by have := (HX.out.1 (HD.out.1 h).2.2.2.2.2).1; omega
      go_wp2
      go_ret
      exact RetIff.no 8 (by decide) Hn.out HW2.out
    have h16' : ¬ (16 : Int) < (nx.length : Int) := by omega
    go_wp2
    go_loopg [7] nx.length (fun gg s7 wr => ∃ k : Nat, 1 ≤ k ∧ nx.length - k ≤ gg ∧ s7 = .int .i64 k ∧ k ≤ 17 ∧ Aside (Grew w2 wr) ∧ Aside (∀ j (h : j < nx.length), 1 ≤ j → j < k → (nx[j - 1]'(by omega)) < nx[j]))
    case atStart => exact ⟨1, by omega, by omega, rfl, by omega, (show Aside _ from Grew.refl _), (show Aside _ from fun j h h1 h2 => by omega)⟩
    case round =>
      obtain ⟨k, hk1, hgk, rfl, hk17, BW, M⟩ := hrel
      have g5 := (BW.out.cell (p := ⟨w.heap.size, 5, none⟩) (World.block_lt_of_cell? w2 _ f5)).trans f5
      by_cases hlt : k < nx.length
      case neg =>
        have hltz : ¬ (k : Int) < (nx.length : Int) := by omega
        have Hx : RowKit.Hid PX := HX.out.2 ⟨by omega, fun j h h1 => M.out j h h1 (by omega)⟩
        have Hy : RowKit.Hid PA := HD.out.2 ⟨by first | rfl | trivial, by first | rfl | trivial, by first | rfl | trivial, HPREVOK.out, HPN.out, Hx.out⟩
        go_wp2
        go_ret
        exact RetIff.yes Hy.out (HW2.out.trans BW.out)
      have hltz : (k : Int) < (nx.length : Int) := by omega
      have h0k : (0 : Int) ≤ (k : Int) := by omega
      have hki : (0 : Int) ≤ (k : Int) - 1 := by omega
      have hki2 : (k : Int) - 1 < (nx.length : Int) := by omega
      have hki3 : (1 : Int) ≤ (k : Int) := by omega
      have hkt : ((k : Int) - 1).toNat = k - 1 := by omega
      obtain ⟨bx, ox, rfl, hbx, hcx2⟩ := HRX.out (by omega)
      have d1 := hcx2 wr (HW2.out.trans BW.out) k hlt
      have d2 := hcx2 wr (HW2.out.trans BW.out) (k - 1) (by omega)
      have HS : RowKit.Hid ((nx[k - 1]'(by omega)) < nx[k] → ∀ j (h : j < nx.length), 1 ≤ j → j < k + 1 → (nx[j - 1]'(by omega)) < nx[j]) := fun h j hj h1 h2 => by
        by_cases e : j = k
        · subst e; exact h
        · exact M.out j hj h1 (by omega)
      have HB : RowKit.Hid (¬ (nx[k - 1]'(by omega)) < nx[k] → ¬ PA) := fun h h2 => h ((HX.out.1 (HD.out.1 h2).2.2.2.2.2).2 k hlt hk1)
      clear hcx2
      generalize nx[k - 1]'(by omega) = z1 at d2 HS HB
      generalize nx[k] = z2 at d1 HS HB
      have hwr : IntKind.i64.wrap ((k : Int) - 1) = (k : Int) - 1 := IntWalk.i64_in _ (by omega)
      by_cases r : z2 ≤ z1
      · have Hn := Lib.hid (HB.out (by omega))
        go_wp2
        go_quiet (fail)
        clear hwr
        go_wp2
        go_ret
        exact RetIff.no 5 (by decide) Hn.out ((HW2.out.trans BW.out).drewN _)
      · have r' : decide (z2 ≤ z1) = false := by simpa using r
        have Hs := Lib.hid (HS.out (by omega))
        clear HS HB r
        go_wp2
        go_quiet (fail)
        clear hwr
        go_wp2
        go_roundg (nx.length - (k + 1))
        case measure => omega
        case rel => exact ⟨k + 1, by omega, by omega, by go_num, by omega, (show Aside _ from BW.out.drewN _), (show Aside _ from Hs.out)⟩
end Go.Proofs.YtfghbendiofbeaaGreatDoor

/- The reference's Find, next, Check and Right of authorities, walked. No condition. -/
namespace Go.Proofs.YtfghbendiofbeaaGreatDoor
open Go.RowKit

set_option maxHeartbeats 4000000 in
theorem refFind (l : List Auth) (id : Int) (v : Value) (w : World) (hv : SlAu w v l) : Calls Tryz.prog 67 #[v, .int .i64 id] w (FindEnd (auFind l id) w) := by
  obtain ⟨A, c, rfl, hlc, hc, hr⟩ := hv.open_
  unfold maxLen at hc
  have HR := Lib.hid hr
  have HF1 : RowKit.Hid (∀ k (h : k < l.length), (∀ j (hj : j < l.length), j < k → ¬ l[j].id = id) → l[k].id = id → auFind l id = some l[k]) := fun k h hb he => by
    unfold auFind
    exact List.find?_eq_some_iff_getElem.2 ⟨by simpa using he, k, h, rfl, fun j hj => by simpa using hb j (by omega) hj⟩
  have HF2 : RowKit.Hid ((∀ j (hj : j < l.length), ¬ l[j].id = id) → auFind l id = none) := fun hb => by
    unfold auFind
    rw [List.find?_eq_none]
    intro x hx
    obtain ⟨j, hj, rfl⟩ := List.mem_iff_getElem.1 hx
    simpa using hb j hj
  generalize auFind l id = O at HF1 HF2 ⊢
  clear hr hv
  go_enter Tryz.func67, Tryz.ntmps67
  go_wp2
  go_loop [6] (fun i => ∃ k : Nat, k ≤ l.length ∧ i = .int .i64 k ∧ Aside (∀ j (hj : j < l.length), j < k → ¬ l[j].id = id)) (fun i => l.length - (intOf i).toNat)
  case atStart => exact ⟨0, by omega, rfl, (show Aside _ from fun j h h2 => absurd h2 (Nat.not_lt_zero _))⟩
  case round =>
    obtain ⟨k, hk, rfl, M⟩ := hrel
    by_cases hlt : k < l.length
    · have hltz : (k : Int) < (l.length : Int) := by omega
      have h0z : (0 : Int) ≤ (k : Int) := by omega
      obtain ⟨b, off, rfl, hb, hcell⟩ := HR.out (by omega)
      obtain ⟨nv, xv, hn, hx, hcl⟩ := hcell k hlt
      obtain ⟨c0, c1, c2, c3, c4, c5⟩ := hcl _ ((Grew.refl w).alloc (.cells #[.int .i64 0, .int .i64 0, .int .i64 0, .int .i64 0, .slice none 0 0, .slice none 0 0] 72))
      obtain ⟨An, cn, rfl, -, -, -⟩ := hn.open_
      obtain ⟨Ax, cx, rfl, -, -, -⟩ := hx.open_
      have HS := Lib.hid (HF1.out k hlt M.out)
      have HN : RowKit.Hid (¬ l[k].id = id → ∀ j (hj : j < l.length), j < k + 1 → ¬ l[j].id = id) := fun h j hj h2 => by
        by_cases e : j = k
        · subst e; exact h
        · exact M.out j hj (by omega)
      generalize l[k] = y at c0 c1 c2 c3 c4 c5 HS HN
      obtain ⟨yi, yk, yf, yu, yn, yx⟩ := y
      dsimp only at c0 c1 c2 c3 c4 c5 HS HN
      clear hcell hcl hn hx
      by_cases he : yi = id
      · have hO := HS.out he
        have he' : (yi == id) = true := by simpa using he
        subst hO
        clear he HS HN M HF1 HF2
        go_wp2
        refine bodyPost_ret (v := .tuple #[.agg #[.int .i64 yi, .int .i64 yk, .int .i64 yf, .int .i64 yu, .slice An yn.length cn, .slice Ax yx.length cx], .bool true]) (by simp [results, Tryz.results67, go_sem]) rfl ⟨_, _, _, _, _, _, rfl, ?_⟩
        exact (Grew.refl w).alloc _
      · have he' : (yi == id) = false := by simpa using he
        have Hy := Lib.hid (HN.out he)
        clear he HS HN M
        go_wp2
        go_round
        case rel => exact ⟨k + 1, by omega, by go_num, (show Aside _ from Hy.out)⟩
        case measure => simp [intOf]; omega
    · have hltz : ¬ (k : Int) < (l.length : Int) := by omega
      have hO := HF2.out (fun j hj => M.out j hj (by omega))
      subst hO
      clear HF1 HF2 M
      go_wp2
      refine bodyPost_ret (v := .tuple #[.agg #[.int .i64 0, .int .i64 0, .int .i64 0, .int .i64 0, .slice none 0 0, .slice none 0 0], .bool false]) (by simp [results, Tryz.results67, go_sem]) rfl ⟨_, _, _, _, _, _, rfl, ?_⟩
      exact (Grew.refl w).alloc _
theorem succ_at {l : List Auth} {nx : List Int} {ak au : Int} (h1 : ∀ j (h : j < nx.length), (auFind l nx[j]).isSome = true) (h2 : ∀ j (h : j < nx.length), ((auFind l nx[j]).getD au0).kind = ak) (h3 : ∀ j (h : j < nx.length), ((auFind l nx[j]).getD au0).fr = au) : ∀ j (h : j < nx.length), ∃ b, auFind l nx[j] = some b ∧ b.kind = ak ∧ b.fr = au := fun j h => by
  obtain ⟨b, hb⟩ := Option.isSome_iff_exists.1 (h1 j h)
  have h4 := h2 j h
  have h5 := h3 j h
  rw [hb] at h4 h5
  exact ⟨b, hb, h4, h5⟩
set_option maxHeartbeats 8000000 in
theorem refNext (l : List Auth) (a : Auth) (v nv xv : Value) (w : World) (hv : SlAu w v l) (hn : SlN w nv a.names) (hx : SlI w xv a.next) :
    Calls Tryz.prog 111 #[v, .agg #[.int .i64 a.id, .int .i64 a.kind, .int .i64 a.fr, .int .i64 a.un, nv, xv]] w (RetIff (SuccOk l a) w) := by
  have HF := Lib.hid (fun id W (hW : Grew w W) => refFind l id v W (hv.mono hW))
  have HS : RowKit.Hid (SuccOk l a ↔ ∀ j (h : j < a.next.length), ∃ b, auFind l a.next[j] = some b ∧ b.kind = a.kind ∧ b.fr = a.un) := by
    constructor
    · intro h j hj; exact h _ (List.getElem_mem hj)
    · intro h n hm
      obtain ⟨j, hj, rfl⟩ := List.mem_iff_getElem.1 hm
      exact h j hj
  generalize SuccOk l a = PS at HS ⊢
  obtain ⟨Ax, cx, rfl, hlx, hcx, hrx⟩ := hx.open_
  unfold maxLen at hcx
  have HRX := Lib.hid hrx
  obtain ⟨An, cn, rfl, -, -, -⟩ := hn.open_
  obtain ⟨Av, cv, rfl, -, -, -⟩ := hv.open_
  generalize a.names.length = an
  obtain ⟨ai, ak, af, au, ans, nx⟩ := a
  dsimp only at HS HRX hlx ⊢
  clear hrx hx hn hv
  go_enter Tryz.func111, Tryz.ntmps111
  go_wp2
  go_loopg [5] nx.length (fun gg s wr => ∃ k : Nat, k ≤ nx.length ∧ nx.length - k ≤ gg ∧ s = .int .i64 k ∧ Aside (Grew (w.alloc (.cells #[.int .i64 ai, .int .i64 ak, .int .i64 af, .int .i64 au, .slice An an cn, .slice Ax nx.length cx] 72)) wr) ∧ Aside (∀ j (h : j < nx.length), j < k → (auFind l nx[j]).isSome = true))
  case atStart => exact ⟨0, by omega, by omega, rfl, (show Aside _ from Grew.refl _), (show Aside _ from fun j h h2 => absurd h2 (Nat.not_lt_zero _))⟩
  case round =>
    obtain ⟨k, hk, hgk, rfl, BW, M⟩ := hrel
    have GW := Lib.hid (((Grew.refl w).alloc _).trans BW.out)
    have n5 := new_cell BW.out 5 _ rfl
    by_cases hlt : k < nx.length
    · have hltz : (k : Int) < (nx.length : Int) := by omega
      have h0z : (0 : Int) ≤ (k : Int) := by omega
      obtain ⟨bx, ox, rfl, hbx, hcx2⟩ := HRX.out (by omega)
      have d1 := hcx2 wr GW.out k hlt
      have kF := HF.out nx[k] wr GW.out
      have HN : RowKit.Hid ((auFind l nx[k]).isSome = false → ¬ PS) := fun h h2 => by
        obtain ⟨b, hb, _⟩ := HS.out.1 h2 k hlt
        rw [hb] at h
        cases h
      have HY : RowKit.Hid ((auFind l nx[k]).isSome = true → ∀ j (h : j < nx.length), j < k + 1 → (auFind l nx[j]).isSome = true) := fun h j hj h2 => by
        by_cases e : j = k
        · subst e; exact h
        · exact M.out j hj (by omega)
      generalize auFind l nx[k] = O at kF HN HY
      generalize nx[k] = z at d1 kF
      have KF := Lib.hid kF
      clear kF hcx2
      go_wp2_with fail
      refine KF.out.mono ?_
      rintro e w1 ⟨B1, m1, e1, B2, m2, e2, rfl, g1⟩
      have HG := Lib.hid (BW.out.trans g1)
      clear g1 KF d1 n5
      cases hO : O.isSome
      · have Hn := Lib.hid (HN.out hO)
        dsimp only
        go_wp2
        go_ret
        exact RetIff.no 7 (by decide) Hn.out ((((Grew.refl w).alloc _).trans HG.out).alloc _)
      · have Hy := Lib.hid (HY.out hO)
        dsimp only
        go_wp2
        go_roundg (nx.length - (k + 1))
        case measure => omega
        case rel => exact ⟨k + 1, by omega, by omega, by go_num, (show Aside _ from HG.out.alloc _), (show Aside _ from Hy.out)⟩
    have hltz : ¬ (k : Int) < (nx.length : Int) := by omega
    have HALL : RowKit.Hid (∀ j (h : j < nx.length), (auFind l nx[j]).isSome = true) := fun j h => M.out j h (by omega)
    clear M
    go_wp2
    clear n5
    go_loopg [8] nx.length (fun gg s wx => ∃ k : Nat, k ≤ nx.length ∧ nx.length - k ≤ gg ∧ s = .int .i64 k ∧ Aside (Grew (w.alloc (.cells #[.int .i64 ai, .int .i64 ak, .int .i64 af, .int .i64 au, .slice An an cn, .slice Ax nx.length cx] 72)) wx) ∧ Aside (∀ j (h : j < nx.length), j < k → ((auFind l nx[j]).getD au0).kind = ak))
    case atStart => exact ⟨0, by omega, by omega, rfl, (show Aside _ from BW.out), (show Aside _ from fun j h h2 => absurd h2 (Nat.not_lt_zero _))⟩
    case round =>
      obtain ⟨k, hk, hgk, rfl, BW, M⟩ := hrel
      have GW := Lib.hid (((Grew.refl w).alloc _).trans BW.out)
      have n5 := new_cell BW.out 5 _ rfl
      have nK := new_cell BW.out 1 _ rfl
      by_cases hlt : k < nx.length
      · have hltz : (k : Int) < (nx.length : Int) := by omega
        have h0z : (0 : Int) ≤ (k : Int) := by omega
        obtain ⟨bx, ox, rfl, hbx, hcx2⟩ := HRX.out (by omega)
        have d1 := hcx2 _ GW.out k hlt
        have kF := HF.out nx[k] _ GW.out
        have HN : RowKit.Hid (¬ ((auFind l nx[k]).getD au0).kind = ak → ¬ PS) := fun h h2 => by
          obtain ⟨b, hb, hq, hq2⟩ := HS.out.1 h2 k hlt
          rw [hb] at h
          exact h hq
        have HY : RowKit.Hid (((auFind l nx[k]).getD au0).kind = ak → ∀ j (h : j < nx.length), j < k + 1 → ((auFind l nx[j]).getD au0).kind = ak) := fun h j hj h2 => by
          by_cases e : j = k
          · subst e; exact h
          · exact M.out j hj (by omega)
        generalize auFind l nx[k] = O at kF HN HY
        generalize nx[k] = z at d1 kF
        unfold FindEnd at kF
        generalize O.getD au0 = y at kF HN HY
        obtain ⟨yi, yk, yf, yu, yn, yx⟩ := y
        dsimp only at kF HN HY
        have KF := Lib.hid kF
        clear kF hcx2
        go_wp2_with fail
        refine KF.out.mono ?_
        rintro e w1 ⟨B1, m1, e1, B2, m2, e2, rfl, g1⟩
        have mK := keep_cell ((g1).alloc (.cells #[.int .i64 yi, .int .i64 yk, .int .i64 yf, .int .i64 yu, .slice B1 m1 e1, .slice B2 m2 e2] 72)) nK
        have HG := Lib.hid (BW.out.trans g1)
        clear g1 KF d1 n5 nK
        dsimp only
        by_cases hq : yk = ak
        case neg =>
          have hq' : (yk != ak) = true := by simpa using hq
          have Hn := Lib.hid (HN.out hq)
          clear hq
          go_wp2
          go_ret
          exact RetIff.no 10 (by decide) Hn.out ((((Grew.refl w).alloc _).trans HG.out).alloc _)
        · have hq' : (yk != ak) = false := by simpa using hq
          have Hy := Lib.hid (HY.out hq)
          clear hq
          go_wp2
          go_roundg (nx.length - (k + 1))
          case measure => omega
          case rel => exact ⟨k + 1, by omega, by omega, by go_num, (show Aside _ from HG.out.alloc _), (show Aside _ from Hy.out)⟩
      have hltz : ¬ (k : Int) < (nx.length : Int) := by omega
      have HKIND : RowKit.Hid (∀ j (h : j < nx.length), ((auFind l nx[j]).getD au0).kind = ak) := fun j h => M.out j h (by omega)
      clear M
      go_wp2
      clear n5 nK
      go_loopg [11] nx.length (fun gg s wx => ∃ k : Nat, k ≤ nx.length ∧ nx.length - k ≤ gg ∧ s = .int .i64 k ∧ Aside (Grew (w.alloc (.cells #[.int .i64 ai, .int .i64 ak, .int .i64 af, .int .i64 au, .slice An an cn, .slice Ax nx.length cx] 72)) wx) ∧ Aside (∀ j (h : j < nx.length), j < k → ((auFind l nx[j]).getD au0).fr = au))
      case atStart => exact ⟨0, by omega, by omega, rfl, (show Aside _ from BW.out), (show Aside _ from fun j h h2 => absurd h2 (Nat.not_lt_zero _))⟩
      case round =>
        obtain ⟨k, hk, hgk, rfl, BW, M⟩ := hrel
        have GW := Lib.hid (((Grew.refl w).alloc _).trans BW.out)
        have n5 := new_cell BW.out 5 _ rfl
        have nK := new_cell BW.out 3 _ rfl
        by_cases hlt : k < nx.length
        · have hltz : (k : Int) < (nx.length : Int) := by omega
          have h0z : (0 : Int) ≤ (k : Int) := by omega
          obtain ⟨bx, ox, rfl, hbx, hcx2⟩ := HRX.out (by omega)
          have d1 := hcx2 _ GW.out k hlt
          have kF := HF.out nx[k] _ GW.out
          have HN : RowKit.Hid (¬ ((auFind l nx[k]).getD au0).fr = au → ¬ PS) := fun h h2 => by
            obtain ⟨b, hb, hq, hq2⟩ := HS.out.1 h2 k hlt
            rw [hb] at h
            exact h hq2
          have HY : RowKit.Hid (((auFind l nx[k]).getD au0).fr = au → ∀ j (h : j < nx.length), j < k + 1 → ((auFind l nx[j]).getD au0).fr = au) := fun h j hj h2 => by
            by_cases e : j = k
            · subst e; exact h
            · exact M.out j hj (by omega)
          generalize auFind l nx[k] = O at kF HN HY
          generalize nx[k] = z at d1 kF
          unfold FindEnd at kF
          generalize O.getD au0 = y at kF HN HY
          obtain ⟨yi, yk, yf, yu, yn, yx⟩ := y
          dsimp only at kF HN HY
          have KF := Lib.hid kF
          clear kF hcx2
          go_wp2_with fail
          refine KF.out.mono ?_
          rintro e w1 ⟨B1, m1, e1, B2, m2, e2, rfl, g1⟩
          have mK := keep_cell ((g1).alloc (.cells #[.int .i64 yi, .int .i64 yk, .int .i64 yf, .int .i64 yu, .slice B1 m1 e1, .slice B2 m2 e2] 72)) nK
          have HG := Lib.hid (BW.out.trans g1)
          clear g1 KF d1 n5 nK
          dsimp only
          by_cases hq : yf = au
          case neg =>
            have hq' : (yf != au) = true := by simpa using hq
            have Hn := Lib.hid (HN.out hq)
            clear hq
            go_wp2
            go_ret
            exact RetIff.no 16 (by decide) Hn.out ((((Grew.refl w).alloc _).trans HG.out).alloc _)
          · have hq' : (yf != au) = false := by simpa using hq
            have Hy := Lib.hid (HY.out hq)
            clear hq
            go_wp2
            go_roundg (nx.length - (k + 1))
            case measure => omega
            case rel => exact ⟨k + 1, by omega, by omega, by go_num, (show Aside _ from HG.out.alloc _), (show Aside _ from Hy.out)⟩
        have hltz : ¬ (k : Int) < (nx.length : Int) := by omega
        have HFR : RowKit.Hid (∀ j (h : j < nx.length), ((auFind l nx[j]).getD au0).fr = au) := fun j h => M.out j h (by omega)
        clear M
        have Hy := Lib.hid (HS.out.2 (succ_at HALL.out HKIND.out HFR.out))
        go_wp2
        go_ret
        exact RetIff.yes Hy.out GW.out
end Go.Proofs.YtfghbendiofbeaaGreatDoor
