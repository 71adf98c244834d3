/- element.Get and element.Of: what they return. No condition but the sizes that a slice can have. -/
import Derived.Test.YtiikniopjcnphaaDoorSl1
import Derived.Test.YtiikniopjcnphaaDoorDel
namespace Go.Proofs.YtiikniopjcnphaaDoor
open Go.RowKit

theorem own_base {W : World} {base base' : Nat} {e : TypeId} {size : Nat} {v : Value} {k : Nat} {xs : List Value} (h : W.ownsRow base e size v k xs) (hb : base' ≤ base) : W.ownsRow base' e size v k xs := by
  refine ⟨h.1, ?_⟩
  rcases h.2 with h1 | ⟨g, cap, cur, hv, hg, r⟩
  · exact .inl h1
  · exact .inr ⟨g, cap, cur, hv, by omega, r⟩
def getP (u n : Int) (lang : ByteArray) (x : Val) : Bool := x.unit == u && (x.elem == n && (x.lang.toList == lang.toList))
set_option maxHeartbeats 1000000 in
theorem get1_any (B : Nat) (u n : Int) (lang : ByteArray) (W : World) (x : Val) (hB : B + 2 < W.heap.size) (h0 : W.cell? ⟨B, 0, none⟩ = some (.int .i64 u)) (h1 : W.cell? ⟨B + 1, 0, none⟩ = some (.int .i64 n)) (h2 : W.cell? ⟨B + 2, 0, none⟩ = some (.string lang)) :
    Calls Tryd.prog 57 (#[x.agg] ++ #[.pointer (some ⟨B, 0, none⟩), .pointer (some ⟨B + 1, 0, none⟩), .pointer (some ⟨B + 2, 0, none⟩)]) W fun e w' => e = .returned (.bool (getP u n lang x)) ∧ Grew W w' := by
  obtain ⟨xu, xe, xl, xt⟩ := x
  unfold Val.agg getP
  dsimp only
  have hB0 : B < W.heap.size := by omega
  have hB1 : B + 1 < W.heap.size := by omega
  cases e1 : (xu == u) with
  | false =>
    simp only [Bool.false_and]
    go_enter Tryd.func57, Tryd.ntmps57
    go_wp2
    go_ret
    exact ⟨rfl, (Grew.refl W).alloc _⟩
  | true =>
    cases e2 : (xe == n) with
    | false =>
      simp only [Bool.false_and, Bool.and_false]
      go_enter Tryd.func57, Tryd.ntmps57
      go_wp2
      go_ret
      exact ⟨rfl, (Grew.refl W).alloc _⟩
    | true =>
      simp only [Bool.true_and]
      go_enter Tryd.func57, Tryd.ntmps57
      go_wp2
      go_ret
      exact ⟨rfl, (Grew.refl W).alloc _⟩
theorem enters_get1 : ∀ args w, (callFunc 57 args).run Tryd.prog w = .ok (.enter 57 args) w := enters_of Tryd.func57 (by kernel_rfl) rfl

/-- The text of the first value of a unit, an element and a language. -/
def getF (vs : List Val) (u n : Int) (lang : ByteArray) : Option ByteArray := (vs.find? (getP u n lang)).map (·.text)
def optS (o : Option ByteArray) : ByteArray := o.getD ⟨#[]⟩
set_option maxHeartbeats 1000000 in
theorem get_any (vs : List Val) (u n : Int) (lang : ByteArray) (v : Value) (w : World) (hv : SlV w v vs) :
    Calls Tryd.prog 32 #[v, .int .i64 u, .int .i64 n, .string lang] w fun e w' => e = .returned (.tuple #[.string (optS (getF vs u n lang)), .bool (getF vs u n lang).isSome]) ∧ Grew w w' := by
  obtain ⟨A, c, rfl, hlc, hc, hr⟩ := hv.open_
  unfold maxLen at hc
  have hW : ∀ W, Grew (((w.alloc (.cells #[.int .i64 u] 3)).alloc (.cells #[.int .i64 n] 3)).alloc (.cells #[.string lang] 9)) W → w.heap.size + 2 < W.heap.size ∧ W.cell? ⟨w.heap.size, 0, none⟩ = some (.int .i64 u) ∧ W.cell? ⟨w.heap.size + 1, 0, none⟩ = some (.int .i64 n) ∧ W.cell? ⟨w.heap.size + 2, 0, none⟩ = some (.string lang) := fun W hW => by
    have h1 := hW.size
    simp at h1
    refine ⟨by omega, ?_, ?_, ?_⟩
    · exact (hW.cell (p := ⟨w.heap.size, 0, none⟩) (by simp; omega)).trans (by simp [go_sem])
    · exact (hW.cell (p := ⟨w.heap.size + 1, 0, none⟩) (by simp)).trans (by simp [go_sem])
    · exact (hW.cell (p := ⟨w.heap.size + 2, 0, none⟩) (by simp)).trans (by simp [go_sem])
  have hix := indexFuncV vs (getP u n lang) _ _ enters_get1 (.slice A vs.length c) _ (hv.mono ((((Grew.refl w).alloc (.cells #[.int .i64 u] 3)).alloc (.cells #[.int .i64 n] 3)).alloc (.cells #[.string lang] 9)))
    (fun W x h _ => get1_any w.heap.size u n lang W x (hW W h).1 (hW W h).2.1 (hW W h).2.2.1 (hW W h).2.2.2)
  have HR := Lib.hid hr
  clear hW hr hv
  by_cases hany : vs.any (getP u n lang) = true
  · obtain ⟨m, hm, hpm, hbef⟩ := idxP_find _ vs hany
    rw [idxP_hit _ vs m hm hpm hbef] at hix
    have hf : vs.find? (getP u n lang) = some vs[m] := List.find?_eq_some_iff_getElem.2 ⟨hpm, m, hm, rfl, fun j hj => by simpa using hbef j (by omega) hj⟩
    have hg : getF vs u n lang = some (vs[m]).text := by simp [getF, hf]
    rw [hg]
    have HX := Lib.hid hix
    obtain ⟨b, off, rfl, hb, hcell⟩ := HR.out (by omega)
    have HC := Lib.hid hcell
    have hneg : ¬ (m : Int) < 0 := by omega
    clear hix hany hbef hpm hf hg hcell
    go_enter Tryd.func32, Tryd.ntmps32
    go_wp2_with (first | (go_at_call 56; refine HX.out.mono ?_; rintro e w1 ⟨rfl, hg⟩; have hgw : Grew w w1 := (((Grew.refl w).alloc _).alloc _).alloc _ |>.trans hg; obtain ⟨_, _, _, c3⟩ := HC.out w1 hgw m hm))
    go_ret2
    exact ⟨rfl, hgw⟩
  · simp only [Bool.not_eq_true] at hany
    rw [idxP_miss _ vs (fun i hi => by rw [List.any_eq_false] at hany; simpa using hany vs[i] (List.getElem_mem hi))] at hix
    have hg : getF vs u n lang = none := by
      rw [List.any_eq_false] at hany
      simp only [getF, Option.map_eq_none_iff, List.find?_eq_none]
      exact fun x hx => hany x hx
    rw [hg]
    have HX := Lib.hid hix
    clear hix hany hg
    go_enter Tryd.func32, Tryd.ntmps32
    go_wp2_with (first | (go_at_call 56; refine HX.out.mono ?_; rintro e w1 ⟨rfl, hg⟩; have hgw : Grew w w1 := (((Grew.refl w).alloc _).alloc _).alloc _ |>.trans hg))
    go_ret2
    exact ⟨rfl, hgw⟩

theorem of1_any (B : Nat) (u : Int) (W : World) (x : Val) (hB : B < W.heap.size) (h0 : W.cell? ⟨B, 0, none⟩ = some (.int .i64 u)) :
    Calls Tryd.prog 59 (#[x.agg] ++ #[.pointer (some ⟨B, 0, none⟩)]) W fun e w' => e = .returned (.bool (x.unit != u)) ∧ Grew W w' := by
  unfold Val.agg
  go_enter Tryd.func59, Tryd.ntmps59
  go_wp2
  go_ret
  exact ⟨rfl, (Grew.refl W).alloc _⟩
theorem enters_of1 : ∀ args w, (callFunc 59 args).run Tryd.prog w = .ok (.enter 59 args) w := enters_of Tryd.func59 (by kernel_rfl) rfl
/-- The values of a unit. -/
def ofF (vs : List Val) (u : Int) : List Val := vs.filter fun x => !(x.unit != u)
theorem of_vals (vs : List Val) (u : Int) (v : Value) (w : World) (hv : SlV w v vs) (hb : vs.length * 48 ≤ 140737488355328) :
    Calls Tryd.prog 33 #[v, .int .i64 u] w fun e w' => ∃ v', e = .returned v' ∧ w'.ownsRow w.heap.size 31 4 v' (ofF vs u).length ((ofF vs u).flatMap Val.cells) ∧ Grew w w' := by
  have hcl := Lib.hid (cloneV vs v (w.alloc (.cells #[.int .i64 u] 3)) (hv.mono ((Grew.refl w).alloc _)) hb)
  unfold ofF
  generalize hR : (vs.filter fun x => !(x.unit != u)) = R
  have HR := Lib.hid hR
  clear hv hR
  go_enter Tryd.func33, Tryd.ntmps33
  go_wp2_with (first | (go_at_call 31; refine hcl.out.mono ?_; rintro e w1 ⟨v', rfl, ho, hg⟩; have HO := Lib.hid ho; clear ho))
  refine (deleteFuncV vs (fun x => x.unit != u) _ _ enters_of1 (w.heap.size + 1) v' w1 (by have := hg.size; simpa using this) (by simpa using HO.out) (fun W x hW _ => ?_)).mono ?_
  · have hs := hW.size
    have hs2 := hg.size
    simp at hs2
    refine of1_any w.heap.size u W x (by omega) ?_
    rw [hW.cell (p := ⟨w.heap.size, 0, none⟩) (by simp), hg.cell (p := ⟨w.heap.size, 0, none⟩) (by simp)]
    simp
  rintro e w2 ⟨v2, rfl, ho2, hb2⟩
  rw [HR.out] at ho2
  have HO2 := Lib.hid ho2
  clear ho2
  go_wp2
  go_ret
  refine ⟨v2, rfl, own_base HO2.out (by omega), ?_⟩
  exact (((Grew.refl w).alloc _).trans hg).below.trans (hb2.mono (by omega))
end Go.Proofs.YtiikniopjcnphaaDoor
