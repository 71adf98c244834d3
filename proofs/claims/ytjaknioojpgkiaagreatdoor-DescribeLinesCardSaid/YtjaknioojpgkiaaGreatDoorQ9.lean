/- Lemmas on what the functions of the program and of the library compute: E8. The conditions stand at each. -/
import Derived.Test.YtjaknioojpgkiaaGreatDoorQ8
/- element.Order: the wanted language first. No condition. -/
namespace Go.Proofs.YtjaknioojpgkiaaGreatDoor
open Go.RowKit Go.Sort

def cfW (wt a b : ByteArray) : Int := if a.toList == b.toList then 0 else if a.toList == wt.toList then -1 else if b.toList == wt.toList then 1 else 0
theorem order1_any (B : Nat) (wt a b : ByteArray) (W : World) (h0 : W.cell? ⟨B, 0, none⟩ = some (.string wt)) :
    Calls Tryz.prog 196 (#[.string a, .string b] ++ #[.pointer (some ⟨B, 0, none⟩)]) W fun e w' => e = .returned (.int .i64 (cfW wt a b)) ∧ ∃ q, w' = W.drewN q := by
  unfold cfW
  cases e1 : (a.toList == b.toList) with
  | true =>
    simp only [if_true]
    go_enter Tryz.func196, Tryz.ntmps196
    go_wp2
    go_ret
    exact ⟨rfl, 0, rfl⟩
  | false =>
    cases e2 : (a.toList == wt.toList) with
    | true =>
      simp only [Bool.false_eq_true, if_false, if_true]
      go_enter Tryz.func196, Tryz.ntmps196
      go_wp2
      go_ret
      exact ⟨rfl, 0, rfl⟩
    | false =>
      cases e3 : (b.toList == wt.toList) with
      | true =>
        simp only [Bool.false_eq_true, if_false, if_true]
        go_enter Tryz.func196, Tryz.ntmps196
        go_wp2
        go_ret
        exact ⟨rfl, 0, rfl⟩
      | false =>
        simp only [Bool.false_eq_true, if_false]
        go_enter Tryz.func196, Tryz.ntmps196
        go_wp2
        go_ret
        exact ⟨rfl, 0, rfl⟩
theorem enters_order1 : ∀ args w, (callFunc 196 args).run Tryz.prog w = .ok (.enter 196 args) w := enters_of Tryz.func196 (by kernel_rfl) rfl
theorem cmpReads_order1 (B blk off size : Nat) (wt : ByteArray) (w : World) (hB : B < w.heap.size) (hne : B ≠ blk) (h0 : w.cell? ⟨B, 0, none⟩ = some (.string wt)) : CmpReads Tryz.prog 196 #[.pointer (some ⟨B, 0, none⟩)] Value.string (cfW wt) blk off size w := by
  intro m os dk _ x y
  refine order1_any B wt x y _ ?_
  unfold sortWorld
  rw [cell?_grow _ _ _ (by simpa using hB), cell?_putRow_other _ _ _ _ _ _ (.inl hne), cell?_ahead]
  exact h0

/-- The order for a wanted language. -/
def ordL (wt : ByteArray) (l : List ByteArray) : List ByteArray := front (fun x => x.toList == wt.toList) l
theorem ins_ordL (wt : ByteArray) (l : List ByteArray) : insertionSort (ltOf (cfW wt)) l.toArray 0 l.length = (ordL wt l).toArray := by
  refine insertionSort_front _ _ l (fun x _ r _ hx hr => ?_) (fun x _ r _ hx hr => ?_) (fun x _ r _ hx => ?_)
  · have h1 : (x.toList == r.toList) = false := by
      rw [beq_eq_false_iff_ne]
      rintro e
      rw [← e, hx] at hr
      cases hr
    simp [ltOf, cfW, hx, h1]
  · have h1 : (x.toList == r.toList) = true := by rw [beq_iff_eq, beq_iff_eq.1 hx, beq_iff_eq.1 hr]
    simp [ltOf, cfW, h1]
  · simp only [ltOf, cfW, hx]
    by_cases h1 : (x.toList == r.toList) = true
    · simp [h1]
    · simp only [h1]
      by_cases h2 : (r.toList == wt.toList) = true
      · simp [h2]
      · simp [h2]
theorem ordL_len (wt : ByteArray) (l : List ByteArray) : (ordL wt l).length = l.length := by
  unfold ordL front
  rw [List.length_append]
  exact len_split _ l
theorem slS_of_holds {w : World} {g cap : Nat} {d : List ByteArray} (h : Holds Value.string w g 0 d.toArray) (hg : g < w.heap.size) (h1 : d.length ≤ cap) (h2 : cap ≤ maxLen) : SlS w (.slice (some ⟨g, 0, none⟩) d.length cap) d := by
  refine ⟨_, d.length, cap, rfl, by simp [flatMap_len oneS 1 (fun _ => rfl)], h1, h2, fun _ => ⟨g, 0, rfl, hg, fun j u hu => ?_⟩⟩
  have hj : j < d.length := by
    have := (List.getElem?_eq_some_iff.1 hu).1
    rw [flatMap_len oneS 1 (fun _ => rfl)] at this
    omega
  have e := flatMap_get oneS 1 (fun _ => rfl) d j 0 hj (by omega)
  simp only [Nat.mul_one, Nat.add_zero] at e
  rw [e] at hu
  rw [(h j (by simpa using hj)).1]
  simpa [oneS, hj] using hu
theorem holdsS_of_own {w : World} {base : Nat} {e : TypeId} {g cap : Nat} {l : List ByteArray} (h : w.ownsRow base e 1 (.slice (some ⟨g, 0, none⟩) l.length cap) l.length (l.flatMap oneS)) : Holds Value.string w g 0 l.toArray := by
  intro j hj
  have hj' : j < l.length := by simpa using hj
  refine ⟨?_, by rw [Nat.zero_add]; exact h.frozenAt j⟩
  rw [Nat.zero_add, h.cellAt j (by omega)]
  have e := flatMap_get oneS 1 (fun _ => rfl) l j 0 hj' (by omega)
  simp only [Nat.mul_one, Nat.add_zero] at e
  rw [e]
  simp [oneS, hj']

set_option maxHeartbeats 1000000 in
theorem stable_any (B g cap : Nat) (wt : ByteArray) (l : List ByteArray) (w : World) (hl : l.length ≤ 8) (hB : B < w.heap.size) (hne : B ≠ g) (h0 : w.cell? ⟨B, 0, none⟩ = some (.string wt)) (hH : Holds Value.string w g 0 l.toArray) :
    Calls Tryz.prog 239 #[.slice (some ⟨g, 0, none⟩) l.length cap, .int .i64 l.length, .func (.func 196) #[] #[.pointer (some ⟨B, 0, none⟩)]] w fun e w' => e = .returned (.tuple #[]) ∧ ∃ n, w' = (putRow Value.string w g 0 (ordL wt l).toArray).drewN n := by
  have hi := Tryz.insertionSortS (cfW wt) _ _ g 0 cap 0 l.length l.toArray w enters_order1 (cmpReads_order1 B g 0 l.toArray.size wt w hB hne h0) hH (by omega) (by simp) (by simp; omega)
  rw [ins_ordL, List.size_toArray, show ((0 : Nat) : Int) = 0 from rfl] at hi
  have HI := Lib.hid hi
  clear hi hH h0
  go_enter Tryz.func239, Tryz.ntmps239
  go_wp2
  refine wp_loop_rounds 1 ?_
  rw [rounds_succ]
  go_wp2_with fail
  refine HI.out.mono ?_
  rintro e w1 ⟨rfl, n, hw⟩
  have HW := Lib.hid hw
  clear hw
  go_wp2
  refine wp_loop_rounds 1 ?_
  rw [rounds_succ]
  go_wp2
  go_end0
  exact ⟨rfl, n, HW.out⟩
theorem sortStable_any (B g cap : Nat) (wt : ByteArray) (l : List ByteArray) (w : World) (hl : l.length ≤ 8) (hB : B < w.heap.size) (hne : B ≠ g) (h0 : w.cell? ⟨B, 0, none⟩ = some (.string wt)) (hH : Holds Value.string w g 0 l.toArray) :
    Calls Tryz.prog 195 #[.slice (some ⟨g, 0, none⟩) l.length cap, .func (.func 196) #[] #[.pointer (some ⟨B, 0, none⟩)]] w fun e w' => e = .returned (.tuple #[]) ∧ ∃ n, w' = (putRow Value.string w g 0 (ordL wt l).toArray).drewN n := by
  have HI := Lib.hid (stable_any B g cap wt l w hl hB hne h0 hH)
  clear h0 hH
  go_enter Tryz.func195, Tryz.ntmps195
  go_wp2_with fail
  refine HI.out.mono ?_
  rintro e w1 ⟨rfl, n, hw⟩
  have HW := Lib.hid hw
  clear hw
  go_wp2
  go_end0
  exact ⟨rfl, n, HW.out⟩

/-- The order for a wanted language, and the error. -/
def orderF (l : List ByteArray) (wt : ByteArray) : List ByteArray × Int :=
  if langsF l ≠ 0 then ([], langsF l) else if isLangF wt.data.toList then (ordL wt l, 0) else ([], 3)
theorem langs_ok {l : List ByteArray} (h : langsF l = 0) : 0 < l.length ∧ l.length ≤ 8 := by
  unfold langsF at h
  constructor
  · rcases Nat.eq_zero_or_pos l.length with h0 | h0
    · rw [if_pos h0] at h; cases h
    · exact h0
  · rcases Nat.lt_or_ge 8 l.length with h0 | h0
    · rw [if_neg (by omega), if_pos h0] at h; cases h
    · exact h0
set_option maxHeartbeats 1000000 in
theorem order_all (l : List ByteArray) (wt : ByteArray) (v : Value) (w : World) (hv : SlS w v l) :
    Calls Tryz.prog 137 #[v, .string wt] w fun e w' => ∃ v', e = .returned (.tuple #[v', .int .i64 (orderF l wt).2]) ∧ SlS w' v' (orderF l wt).1 ∧ Grew w w' := by
  have hla := languages_any l v (w.alloc (.cells #[.string wt] 9)) (hv.mono ((Grew.refl w).alloc _))
  by_cases h0 : langsF l = 0
  case neg =>
    have hC : orderF l wt = ([], langsF l) := by simp [orderF, h0]
    rw [hC]
    have hne : (langsF l != 0) = true := by simpa using h0
    dsimp only
    generalize langsF l = r at hla hne ⊢
    have HLA := Lib.hid hla
    clear hla h0 hC hv
    go_enter Tryz.func137, Tryz.ntmps137
    go_wp2_with (first | (go_at_call 189; refine HLA.out.mono ?_; rintro e w1 ⟨rfl, hg⟩))
    go_ret2
    exact ⟨_, rfl, SlS.nil _, ((Grew.refl w).alloc _).trans hg⟩
  rw [h0] at hla
  have HLA := Lib.hid hla
  have hlang := language_any wt
  cases hw : isLangF wt.data.toList with
  | false =>
    have hC : orderF l wt = ([], 3) := by simp [orderF, h0, hw]
    rw [hC]
    rw [hw] at hlang
    have HLG := Lib.hid hlang
    dsimp only
    clear hla h0 hC hv hlang hw
    go_enter Tryz.func137, Tryz.ntmps137
    go_wp2_with (first | (go_at_call 189; refine HLA.out.mono ?_; rintro e w1 ⟨rfl, hg⟩; have hg0 : Grew w w1 := ((Grew.refl w).alloc _).trans hg; have hc1 : w1.cell? ⟨w.heap.size, 0, none⟩ = some (.string wt) := (hg.cell (p := ⟨w.heap.size, 0, none⟩) (by simp)).trans (by simp)) | (go_at_call 194; refine (HLG.out _).mono ?_; rintro e w2 ⟨rfl, hg2⟩))
    go_ret2
    exact ⟨_, rfl, SlS.nil _, hg0.trans hg2⟩
  | true =>
    obtain ⟨hpos, h8⟩ := langs_ok h0
    have hC : orderF l wt = (ordL wt l, 0) := by simp [orderF, h0, hw]
    rw [hC]
    rw [hw] at hlang
    have HLG := Lib.hid hlang
    have HV := Lib.hid hv
    dsimp only
    clear hla h0 hC hv hlang hw
    go_enter Tryz.func137, Tryz.ntmps137
    go_wp2_with (first | (go_at_call 189; refine HLA.out.mono ?_; rintro e w1 ⟨rfl, hg⟩; have hg0 : Grew w w1 := ((Grew.refl w).alloc _).trans hg; have hc1 : w1.cell? ⟨w.heap.size, 0, none⟩ = some (.string wt) := (hg.cell (p := ⟨w.heap.size, 0, none⟩) (by simp)).trans (by simp)) | (go_at_call 194; refine (HLG.out _).mono ?_; rintro e w2 ⟨rfl, hg2⟩))
    have hg02 : Grew w w2 := hg0.trans hg2
    have hs1 := hg.size
    simp at hs1
    refine (cloneS l v w2 (HV.out.mono hg02) (by omega)).mono ?_
    rintro e w3 ⟨v3, rfl, ho, hg3⟩
    obtain ⟨g, cap, hv3, hbg, hglt, hcap⟩ := own_form ho hpos
    subst hv3
    have hmx := own_max ho
    have hs2 := hg2.size
    have hs3 := hg3.size
    have hc3 : w3.cell? ⟨w.heap.size, 0, none⟩ = some (.string wt) := (hg3.cell (p := ⟨w.heap.size, 0, none⟩) (by show w.heap.size < w2.heap.size; omega)).trans ((hg2.cell (p := ⟨w.heap.size, 0, none⟩) (by show w.heap.size < w1.heap.size; omega)).trans hc1)
    have hH := holdsS_of_own ho
    have HST := Lib.hid (sortStable_any w.heap.size g cap wt l w3 h8 (by omega) (by omega) hc3 hH)
    have HH := Lib.hid hH
    clear ho hH hc3
    go_wp2_with fail
    refine HST.out.mono ?_
    rintro e w4 ⟨rfl, n, hw4⟩
    have hg4 : Grew w2 w4 := by rw [hw4]; exact grew_put hbg hg3 _ _ _
    have hh4 : Holds Value.string w4 g 0 (ordL wt l).toArray := by
      rw [hw4]
      exact holds_putRow Value.string w3 g 0 l.toArray (ordL wt l).toArray HH.out (by simp [ordL_len])
    have hz4 : g < w4.heap.size := by rw [hw4]; simpa using hglt
    have HS4 := Lib.hid (slS_of_holds hh4 hz4 (by rw [ordL_len]; exact hcap) hmx)
    clear hw4 hh4
    go_wp2
    go_ret2
    refine ⟨_, rfl, ?_, hg02.trans hg4⟩
    have := HS4.out
    rw [ordL_len] at this
    exact this
end Go.Proofs.YtjaknioojpgkiaaGreatDoor
