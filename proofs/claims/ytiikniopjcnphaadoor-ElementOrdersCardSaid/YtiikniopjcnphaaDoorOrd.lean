/- The statement on the order of languages, walked: it returns true at every input and changes no block that lay before. No condition. -/
import Derived.Test.YtiikniopjcnphaaDoorE9
import Derived.Deep.RegionHeld3
namespace Go.Proofs.YtiikniopjcnphaaDoor
open Go.RowKit

theorem grew_boxed (w w' : World) (o : Obj) (h : Grew (w.alloc o) w') : Grew w w' := ((Grew.refl w).alloc o).trans h
theorem boxed (w w' : World) (x : ByteArray) (h : Grew (w.alloc (.cells #[.string x] 9)) w') : w'.cell? ⟨w.heap.size, 0, none⟩ = some (.string x) := by
  rw [h.cell (by simp)]
  simp
theorem held (w1 W : World) (p : Addr) (x : Value) (h : w1.cell? p = some x) (hlt : p.block < w1.heap.size) (g : Grew w1 W) : W.cell? p = some x ∧ Grew w1 W := ⟨(g.cell hlt).trans h, g⟩
theorem held2 (w1 W : World) (p q : Addr) (x y : Value) (h : w1.cell? p = some x) (hlt : p.block < w1.heap.size) (h2 : w1.cell? q = some y) (hlt2 : q.block < w1.heap.size) (g : Grew w1 W) : W.cell? p = some x ∧ W.cell? q = some y ∧ Grew w1 W := ⟨(g.cell hlt).trans h, (g.cell hlt2).trans h2, g⟩
theorem orders1_any (B : Nat) (wt : ByteArray) (W : World) (x : ByteArray) (hc : W.cell? ⟨B, 0, none⟩ = some (.string wt)) :
    Calls Tryd.prog 27 (#[.string x] ++ #[.pointer (some ⟨B, 0, none⟩)]) W fun e w' => e = .returned (.bool (x.toList == wt.toList)) ∧ Grew W w' := by
  go_enter Tryd.func27, Tryd.ntmps27
  go_wp2
  go_ret
  exact ⟨rfl, by first | exact Grew.refl W | exact (Grew.refl W).drew⟩
theorem enters_orders1 : ∀ args w, (callFunc 27 args).run Tryd.prog w = .ok (.enter 27 args) w := enters_of Tryd.func27 (by kernel_rfl) rfl
/-- A list without one string. -/
def without (wt : ByteArray) (l : List ByteArray) : List ByteArray := l.filter fun x => !(x.toList == wt.toList)
theorem without_ordL (wt : ByteArray) (l : List ByteArray) : without wt (ordL wt l) = without wt l := by
  simp only [without, ordL, front, List.filter_append, List.filter_filter]
  simp
theorem ordL_head (wt : ByteArray) (l : List ByteArray) (h : (l.any fun y => (wt.toList == y.toList)) = true) (h0 : 0 < (ordL wt l).length) : (ordL wt l)[0] = wt := by
  have hf : (l.filter fun x => x.toList == wt.toList) ≠ [] := by
    obtain ⟨y, hy, hq⟩ := List.any_eq_true.1 h
    refine List.ne_nil_of_mem (a := y) (List.mem_filter.2 ⟨hy, ?_⟩)
    rw [beq_iff_eq] at hq ⊢
    exact hq.symm
  have hl : 0 < (l.filter fun x => x.toList == wt.toList).length := List.length_pos_iff.2 hf
  have e : (ordL wt l)[0] = (l.filter fun x => x.toList == wt.toList)[0] := by
    simp only [ordL, front]
    exact List.getElem_append_left hl
  rw [e]
  have := List.mem_filter.1 (List.getElem_mem hl)
  exact toList_inj.1 (by simpa using this.2)
theorem del_box (l : List ByteArray) (wt : ByteArray) (base B : Nat) (v : Value) (w : World) (hbase : base ≤ w.heap.size) (hown : w.ownsRow base 9 1 v l.length (l.flatMap oneS)) (hB : B < base) (hc : w.cell? ⟨B, 0, none⟩ = some (.string wt)) :
    Calls Tryd.prog 29 #[v, .func (.func 27) #[] #[.pointer (some ⟨B, 0, none⟩)]] w fun e w' => ∃ v', e = .returned v' ∧ SlS w' v' (without wt l) ∧ Below base w w' := by
  refine (deleteFuncS l (fun x => x.toList == wt.toList) _ _ enters_orders1 base v w hbase hown (fun W x hW _ => ?_)).mono ?_
  · refine orders1_any B wt W x ?_
    rw [hW.cell (p := ⟨B, 0, none⟩) (by simpa using hB)]
    exact hc
  · rintro e w' ⟨v', rfl, ho, hb⟩
    exact ⟨v', rfl, Rd.of_own ho, hb⟩
set_option maxRecDepth 100000 in
theorem orders_long (l : List ByteArray) (v : Value) (wt : ByteArray) (w : World) (hv : SlS w v l) (h : 10 < l.length) : Calls Tryd.prog 6 #[v, .string wt] w fun e w' => e = .returned (.bool true) ∧ Grew w w' := by
  obtain ⟨A, c, rfl, hlc, hc, -⟩ := hv.open_
  have hs : ((10 : Int) < (l.length : Int)) := by omega
  clear hv
  go_enter Tryd.func6, Tryd.ntmps6
  go_wp2_with fail
  refine (awake_any _).mono ?_
  rintro e w1 ⟨rfl, g1⟩
  have G1 := grew_boxed _ _ _ g1
  dsimp only
  go_wp2_with fail
  refine (awake_any w1).mono ?_
  rintro e w2 ⟨rfl, g2⟩
  dsimp only
  go_wp2_with fail
  all_goals go_ret
  all_goals exact ⟨rfl, G1.trans g2⟩
set_option maxRecDepth 100000 in
theorem orders_wide (l : List ByteArray) (v : Value) (wt : ByteArray) (w : World) (hv : SlS w v l) (h : ¬ 10 < l.length) (hw : 20 < wt.size) : Calls Tryd.prog 6 #[v, .string wt] w fun e w' => e = .returned (.bool true) ∧ Grew w w' := by
  obtain ⟨A, c, rfl, hlc, hc, -⟩ := hv.open_
  have hs : decide ((10 : Int) < (l.length : Int)) = false := by simp; omega
  have hs2 : ((20 : Int) < (wt.size : Int)) := by omega
  clear hv
  go_enter Tryd.func6, Tryd.ntmps6
  go_wp2_with fail
  refine (awake_any _).mono ?_
  rintro e w1 ⟨rfl, g1⟩
  have G1 := grew_boxed _ _ _ g1
  have hbx := boxed _ _ _ g1
  dsimp only
  go_wp2_with fail
  refine (awake_any w1).mono ?_
  rintro e w2 ⟨rfl, g2⟩
  dsimp only
  go_wp2_with fail
  all_goals go_ret
  all_goals exact ⟨rfl, G1.trans g2⟩

set_option maxHeartbeats 4000000 in
set_option maxRecDepth 100000 in
theorem orders_short (l : List ByteArray) (v : Value) (wt : ByteArray) (w : World) (hv : SlS w v l) (h : ¬ 10 < l.length) (hw : ¬ 20 < wt.size) : Calls Tryd.prog 6 #[v, .string wt] w fun e w' => e = .returned (.bool true) ∧ Grew w w' := by
  have HV := Lib.hid hv
  obtain ⟨A, c, rfl, hlc, hc, -⟩ := hv.open_
  have hs : decide ((10 : Int) < (l.length : Int)) = false := by simp; omega
  have hs2 : decide ((20 : Int) < (wt.size : Int)) = false := by simp; omega
  clear hv
  go_enter Tryd.func6, Tryd.ntmps6
  go_wp2_with fail
  refine (awake_any _).mono ?_
  rintro e w1 ⟨rfl, g1⟩
  have G1 := grew_boxed _ _ _ g1
  have hbx := boxed _ _ _ g1
  have HV1 := Lib.hid (HV.out.mono G1)
  clear HV
  have hlt1 : w.heap.size < w1.heap.size := Nat.lt_of_lt_of_le (by simp) g1.size
  clear g1
  have kO := Lib.hid (order_all l wt)
  generalize hR : orderF l wt = R at kO
  have HR := Lib.hid hR
  clear hR
  obtain ⟨o, e⟩ := R
  dsimp only
  go_wp2_with fail
  go_region_held3 (fun W => W.cell? ⟨w.heap.size, 0, none⟩ = some (.string wt) ∧ Grew w1 W) (refine held w1 _ _ _ hbx hlt1 (by repeat (first | exact Grew.refl _ | assumption | refine Grew.setCell ?_ (by simp <;> omega) _ | refine Grew.alloc ?_ _ | refine Grew.drew ?_ | refine Grew.drewN ?_ _ | refine Grew.trans ?_ (by assumption))))
    (first | (go_at_call 20; refine (cloneS l _ _ (HV1.out.mono (by repeat (first | exact Grew.refl _ | assumption | refine Grew.setCell ?_ (by simp <;> omega) _ | refine Grew.alloc ?_ _ | refine Grew.drew ?_ | refine Grew.drewN ?_ _ | refine Grew.trans ?_ (by assumption)))) (by omega)).mono ?_; rintro e1 w2 ⟨v2, rfl, ho2, g2⟩; have HO2 := Lib.hid ho2; clear ho2) | (go_at_call 19; refine (kO.out _ _ (Rd.of_own HO2.out)).mono ?_; rintro e1 w3 ⟨v3, rfl, hs3, g3⟩; have HS3 := Lib.hid hs3; clear hs3))
  obtain ⟨A3, c3, rfl, hlc3, hc3, hr3⟩ := HS3.out.open_
  have G3 : Grew w1 w3 := (by repeat (first | exact Grew.refl _ | assumption | refine Grew.setCell ?_ (by simp <;> omega) _ | refine Grew.alloc ?_ _ | refine Grew.drew ?_ | refine Grew.drewN ?_ _ | refine Grew.trans ?_ (by assumption)))
  have hbx3 : w3.cell? ⟨w.heap.size, 0, none⟩ = some (.string wt) := (G3.cell hlt1).trans hbx
  have HR3 := Lib.hid hr3
  have HV3 := Lib.hid (HV1.out.mono G3)
  clear hr3 HO2 HV1 g2 g3
  by_cases he : e = 0
  case neg =>
    have ho : o = [] := by
      have := HR.out
      simp only [orderF] at this
      split at this
      · exact (congrArg Prod.fst this).symm
      · split at this
        · exact absurd (congrArg Prod.snd this).symm he
        · exact (congrArg Prod.fst this).symm
    subst ho
    have he' : (e != 0) = true := by simpa using he
    go_wp2_with fail
    go_ret
    exact ⟨rfl, G1.trans G3⟩
  subst he
  have ho : o = ordL wt l := by
    have := HR.out
    simp only [orderF] at this
    split at this
    · rename_i hz
      exact absurd (congrArg Prod.snd this) hz
    · split at this
      · exact (congrArg Prod.fst this).symm
      · exact absurd (congrArg Prod.snd this) (by simp)
  have hlo : o.length = l.length := by rw [ho, ordL_len]
  have hlo' : ((o.length : Int) != (l.length : Int)) = false := by simp [hlo]
  have kC := Lib.hid (containsS l wt)
  have kH := Lib.hid (fun h h0 => (show o[0]'(h0) = wt by subst ho; exact ordL_head wt l h h0))
  have kE : without wt o = without wt l := by rw [ho, without_ordL]
  have KE := Lib.hid kE
  clear ho kE
  have hlt3 : w.heap.size < w3.heap.size := Nat.lt_of_lt_of_le hlt1 G3.size
  have GW3 : Grew w w3 := G1.trans G3
  have h10 : o.length ≤ 10 := by omega
  have h10' : l.length ≤ 10 := by omega
  have HS := Lib.hid (show SlS w3 (.slice A3 o.length c3) o from HS3.out)
  clear HS3 G3 G1 hbx hlt1 kO HR h hw hs hs2 hlc hc hlc3 hc3 hlo
  cases hq : (l.any fun y => (wt.toList == y.toList)) with
  | false =>
    rw [hq] at kC
    clear hq kH HR3
    go_wp2_with fail
    first | go_region_with (first | (go_at_call 28; refine (kC.out _ _ (HV3.out.mono (by repeat (first | exact Grew.refl _ | assumption | refine Grew.setCell ?_ (by simp <;> omega) _ | refine Grew.alloc ?_ _ | refine Grew.drew ?_ | refine Grew.drewN ?_ _ | refine Grew.trans ?_ (by assumption))))).mono ?_; rintro e1 w4 ⟨rfl, rfl⟩) | (go_at_call 20; refine (cloneS o _ _ (HS.out.mono (by repeat (first | exact Grew.refl _ | assumption | refine Grew.setCell ?_ (by simp <;> omega) _ | refine Grew.alloc ?_ _ | refine Grew.drew ?_ | refine Grew.drewN ?_ _ | refine Grew.trans ?_ (by assumption)))) (by omega)).mono ?_; rintro e1 w4 ⟨v4, rfl, ho4, g4⟩; have HO4 := Lib.hid ho4; clear ho4; have G4 : Grew w3 w4 := (by repeat (first | exact Grew.refl _ | assumption | refine Grew.setCell ?_ (by simp <;> omega) _ | refine Grew.alloc ?_ _ | refine Grew.drew ?_ | refine Grew.drewN ?_ _ | refine Grew.trans ?_ (by assumption))); have hc4 := (G4.cell hlt3).trans hbx3; have hz4 := g4.size) | (go_at_call 29; refine (del_box o wt _ _ _ _ hz4 HO4.out (by simpa using hlt3) hc4).mono ?_; rintro e1 w5 ⟨v5, rfl, hs5, hb5⟩; have HS5 := Lib.hid hs5; clear hs5; have G5 : Grew w3 w5 := Grew.trans (by first | exact Grew.refl _ | exact (Grew.refl _).drew) (Below.trans g4 hb5); clear hb5 HO4 g4 G4 hc4 hz4) | (go_at_call 20; refine (cloneS l _ _ (HV3.out.mono G5) (by omega)).mono ?_; rintro e1 w6 ⟨v6, rfl, ho6, g6⟩; have HO6 := Lib.hid ho6; clear ho6; have G6 : Grew w3 w6 := G5.trans g6; have hc6 := (G6.cell hlt3).trans hbx3; have hz6 := g6.size) | (go_at_call 29; refine (del_box l wt _ _ _ _ hz6 HO6.out (Nat.lt_of_lt_of_le hlt3 G5.size) hc6).mono ?_; rintro e1 w7 ⟨v7, rfl, hs7, hb7⟩; have HS7 := Lib.hid hs7; clear hs7; have g7 : Grew w5 w7 := Below.trans g6 hb7; clear hb7 HO6 g6 G6 hc6 hz6) | (go_at_call 26; have kq := equalS _ _ _ _ _ (HS5.out.mono g7) HS7.out; rw [KE.out] at kq; refine kq.mono ?_; rintro e1 w8 ⟨rfl, g8⟩; clear kq; simp only [decide_true])) | fail
    all_goals go_wp2
    all_goals go_ret
    all_goals exact ⟨rfl, ((GW3.trans G5).trans g7).trans g8⟩
  | true =>
    rw [hq] at kC
    have h0 : 0 < o.length := by
      obtain ⟨y, hy, -⟩ := List.any_eq_true.1 hq
      have := List.length_pos_of_mem hy
      have e : (o.length : Int) = (l.length : Int) := by simpa using hlo'
      omega
    obtain ⟨b3, off3, rfl, hb3, hcl3⟩ := HR3.out h0
    have d3 := hcl3 w3 (Grew.refl w3) 0 h0
    rw [kH.out hq h0] at d3
    simp only [Nat.add_zero] at d3
    have h0z : (0 : Int) < (o.length : Int) := by omega
    clear hq kH HR3 hcl3
    go_wp2_with fail
    first | go_region_held3 (fun W => W.cell? ⟨w.heap.size, 0, none⟩ = some (.string wt) ∧ W.cell? ⟨b3, off3, none⟩ = some (.string wt) ∧ Grew w3 W) (refine held2 w3 _ _ _ _ _ hbx3 hlt3 d3 hb3 (by repeat (first | exact Grew.refl _ | assumption | refine Grew.setCell ?_ (by simp <;> omega) _ | refine Grew.alloc ?_ _ | refine Grew.drew ?_ | refine Grew.drewN ?_ _ | refine Grew.trans ?_ (by assumption)))) (first | (go_at_call 28; refine (kC.out _ _ (HV3.out.mono (by repeat (first | exact Grew.refl _ | assumption | refine Grew.setCell ?_ (by simp <;> omega) _ | refine Grew.alloc ?_ _ | refine Grew.drew ?_ | refine Grew.drewN ?_ _ | refine Grew.trans ?_ (by assumption))))).mono ?_; rintro e1 w4 ⟨rfl, rfl⟩) | (go_at_call 20; refine (cloneS o _ _ (HS.out.mono (by repeat (first | exact Grew.refl _ | assumption | refine Grew.setCell ?_ (by simp <;> omega) _ | refine Grew.alloc ?_ _ | refine Grew.drew ?_ | refine Grew.drewN ?_ _ | refine Grew.trans ?_ (by assumption)))) (by omega)).mono ?_; rintro e1 w4 ⟨v4, rfl, ho4, g4⟩; have HO4 := Lib.hid ho4; clear ho4; have G4 : Grew w3 w4 := (by repeat (first | exact Grew.refl _ | assumption | refine Grew.setCell ?_ (by simp <;> omega) _ | refine Grew.alloc ?_ _ | refine Grew.drew ?_ | refine Grew.drewN ?_ _ | refine Grew.trans ?_ (by assumption))); have hc4 := (G4.cell hlt3).trans hbx3; have hz4 := g4.size) | (go_at_call 29; refine (del_box o wt _ _ _ _ hz4 HO4.out (by simpa using hlt3) hc4).mono ?_; rintro e1 w5 ⟨v5, rfl, hs5, hb5⟩; have HS5 := Lib.hid hs5; clear hs5; have G5 : Grew w3 w5 := Grew.trans (by first | exact Grew.refl _ | exact (Grew.refl _).drew) (Below.trans g4 hb5); clear hb5 HO4 g4 G4 hc4 hz4) | (go_at_call 20; refine (cloneS l _ _ (HV3.out.mono G5) (by omega)).mono ?_; rintro e1 w6 ⟨v6, rfl, ho6, g6⟩; have HO6 := Lib.hid ho6; clear ho6; have G6 : Grew w3 w6 := G5.trans g6; have hc6 := (G6.cell hlt3).trans hbx3; have hz6 := g6.size) | (go_at_call 29; refine (del_box l wt _ _ _ _ hz6 HO6.out (Nat.lt_of_lt_of_le hlt3 G5.size) hc6).mono ?_; rintro e1 w7 ⟨v7, rfl, hs7, hb7⟩; have HS7 := Lib.hid hs7; clear hs7; have g7 : Grew w5 w7 := Below.trans g6 hb7; clear hb7 HO6 g6 G6 hc6 hz6) | (go_at_call 26; have kq := equalS _ _ _ _ _ (HS5.out.mono g7) HS7.out; rw [KE.out] at kq; refine kq.mono ?_; rintro e1 w8 ⟨rfl, g8⟩; clear kq; simp only [decide_true])) | fail
    all_goals go_wp2
    all_goals go_ret
    all_goals exact ⟨rfl, ((GW3.trans G5).trans g7).trans g8⟩
theorem orders_any (l : List ByteArray) (v : Value) (wt : ByteArray) (w : World) (hv : SlS w v l) : Calls Tryd.prog 6 #[v, .string wt] w fun e w' => e = .returned (.bool true) ∧ Grew w w' := by
  by_cases h : 10 < l.length
  · exact orders_long l v wt w hv h
  · by_cases hw : 20 < wt.size
    · exact orders_wide l v wt w hv h hw
    · exact orders_short l v wt w hv h hw
end Go.Proofs.YtiikniopjcnphaaDoor
