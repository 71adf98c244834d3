/- Lemmas on what the functions of the program and of the library compute: Up2. The conditions stand at each. -/
import Derived.Test.YtjaknioojpgkiaaGreatDoorQ23
/- inherit.found, walked. The condition: the tree is right. -/
namespace Go.Proofs.YtjaknioojpgkiaaGreatDoor
open Go.RowKit Go.Shelf

attribute [local go_sem] Oper.semAt_some

theorem keeps_grew {W W' : World} (g : Grew W W') : KeepsOthers W W' := ⟨g.size, fun k o ho _ => by rw [g.block k (Array.getElem?_eq_some_iff.1 ho).1]; exact ho⟩
theorem heap_turn {W W' : World} {row : Option Nat} (hg : W.grownBy W' row) {X : Nat} {o : Obj} (h : W.heap[X]? = some o) (hr : ∀ r, row = some r → r ≠ X) : W'.heap[X]? = some o :=
  (hg.block X (Array.getElem?_eq_some_iff.1 h).1 (fun e => hr X e.symm rfl)).trans h
theorem cell_turn {W W' : World} {row : Option Nat} (hg : W.grownBy W' row) {X i : Nat} {v : Value} (h : W.cell? ⟨X, i, none⟩ = some v) (hl : X < W.heap.size) (hr : ∀ r, row = some r → r ≠ X) : W'.cell? ⟨X, i, none⟩ = some v :=
  (World.cell?_of_block (hg.block X hl (fun e => hr X e.symm rfl))).trans h
/-- The boxes of found ahead of its loop. -/
structure FBox (w : World) (rv bv lv vv : Value) (n : Int) (lang : ByteArray) (W : World) : Prop where
  g : Grew w W
  s : W.heap[w.heap.size]? = some (.cells #[rv, bv, lv, vv] 114 (0, 0))
  n : W.heap[w.heap.size + 1]? = some (.cells #[.int .i64 n] 3 (0, 0))
  l : W.heap[w.heap.size + 2]? = some (.cells #[.string lang] 9 (0, 0))
  v : W.heap[w.heap.size + 3]? = some (.cells #[.int .i64 0, .int .i64 0, .string ⟨#[]⟩, .string ⟨#[]⟩] 29 (0, 0))
  b : W.heap[w.heap.size + 4]? = some (.cells #[.bool false] 4 (0, 0))
/-- What found leaves in its results' boxes. -/
structure FRes (w : World) (v : Val) (s : Bool) (W : World) : Prop where
  g : Grew w W
  lt : w.heap.size + 4 < W.heap.size
  c0 : W.cell? ⟨w.heap.size + 3, 0, none⟩ = some (.int .i64 v.unit)
  c1 : W.cell? ⟨w.heap.size + 3, 1, none⟩ = some (.int .i64 v.elem)
  c2 : W.cell? ⟨w.heap.size + 3, 2, none⟩ = some (.string v.lang)
  c3 : W.cell? ⟨w.heap.size + 3, 3, none⟩ = some (.string v.text)
  b : W.cell? ⟨w.heap.size + 4, 0, none⟩ = some (.bool s)
section
variable {w W W' : World} {rv bv lv vv : Value} {n : Int} {lang : ByteArray} {row : Option Nat} {v : Val} {s : Bool}
theorem FBox.turn (h : FBox w rv bv lv vv n lang W) (hg : W.grownBy W' row) (hr : ∀ r, row = some r → w.heap.size + 5 ≤ r) : FBox w rv bv lv vv n lang W' :=
  ⟨Below.grown h.g hg h.g.size (fun k e => by have := hr k e; omega), heap_turn hg h.s (fun r e => by have := hr r e; omega), heap_turn hg h.n (fun r e => by have := hr r e; omega), heap_turn hg h.l (fun r e => by have := hr r e; omega), heap_turn hg h.v (fun r e => by have := hr r e; omega), heap_turn hg h.b (fun r e => by have := hr r e; omega)⟩
theorem FBox.grew (h : FBox w rv bv lv vv n lang W) (hg : Grew W W') : FBox w rv bv lv vv n lang W' := h.turn (grown_grew hg none) (fun r e => by cases e)
theorem FRes.turn (h : FRes w v s W) (hg : W.grownBy W' row) (hr : ∀ r, row = some r → w.heap.size + 5 ≤ r) : FRes w v s W' :=
  ⟨Below.grown h.g hg h.g.size (fun k e => by have := hr k e; omega), Nat.lt_of_lt_of_le h.lt hg.size, cell_turn hg h.c0 (by have := h.lt; omega) (fun r e => by have := hr r e; omega), cell_turn hg h.c1 (by have := h.lt; omega) (fun r e => by have := hr r e; omega), cell_turn hg h.c2 (by have := h.lt; omega) (fun r e => by have := hr r e; omega), cell_turn hg h.c3 (by have := h.lt; omega) (fun r e => by have := hr r e; omega), cell_turn hg h.b h.lt (fun r e => by have := hr r e; omega)⟩
theorem fbox_new (w : World) (rv bv lv vv : Value) (n : Int) (lang : ByteArray) : FBox w rv bv lv vv n lang (((((w.alloc (.cells #[rv, bv, lv, vv] 114)).alloc (.cells #[.int .i64 n] 3)).alloc (.cells #[.string lang] 9)).alloc (.cells #[.int .i64 0, .int .i64 0, .string ⟨#[]⟩, .string ⟨#[]⟩] 29)).alloc (.cells #[.bool false] 4)) := by
  have e0 := heap_newI w (.cells #[rv, bv, lv, vv] 114)
  generalize hA : w.alloc (.cells #[rv, bv, lv, vv] 114) = A at e0 ⊢
  have sA : A.heap.size = w.heap.size + 1 := by rw [← hA, World.size_alloc]
  have e1 := heap_newI A (.cells #[.int .i64 n] 3)
  generalize hB : A.alloc (.cells #[.int .i64 n] 3) = B at e1 ⊢
  have sB : B.heap.size = w.heap.size + 2 := by rw [← hB, World.size_alloc, sA]
  have e2 := heap_newI B (.cells #[.string lang] 9)
  generalize hC : B.alloc (.cells #[.string lang] 9) = C at e2 ⊢
  have sC : C.heap.size = w.heap.size + 3 := by rw [← hC, World.size_alloc, sB]
  have e3 := heap_newI C (.cells #[.int .i64 0, .int .i64 0, .string ⟨#[]⟩, .string ⟨#[]⟩] 29)
  generalize hD : C.alloc (.cells #[.int .i64 0, .int .i64 0, .string ⟨#[]⟩, .string ⟨#[]⟩] 29) = D at e3 ⊢
  have sD : D.heap.size = w.heap.size + 4 := by rw [← hD, World.size_alloc, sC]
  have e4 := heap_newI D (.cells #[.bool false] 4)
  rw [sA] at e1
  rw [sB] at e2
  rw [sC] at e3
  rw [sD] at e4
  have gA : Grew w A := by rw [← hA]; exact (Grew.refl w).alloc _
  have gB : Grew A B := by rw [← hB]; exact (Grew.refl A).alloc _
  have gC : Grew B C := by rw [← hC]; exact (Grew.refl B).alloc _
  have gD : Grew C D := by rw [← hD]; exact (Grew.refl C).alloc _
  have gE := (Grew.refl D).alloc (.cells #[.bool false] 4)
  exact ⟨(((gA.trans gB).trans gC).trans gD).trans gE, heap_keepI (((gB.trans gC).trans gD).trans gE) e0, heap_keepI ((gC.trans gD).trans gE) e1, heap_keepI (gD.trans gE) e2, heap_keepI gE e3, e4⟩
end
theorem one_cell {W : World} {P : Nat} {t : TypeId} {x : Value} (h : W.heap[P]? = some (.cells #[x] t (0, 0))) : W.cell? ⟨P, 0, none⟩ = some x ∧ W.frozen? ⟨P, 0, none⟩ = false := by
  simp [World.cell?, World.frozen?, h]
theorem fres_set {w W : World} {rv bv lv vv : Value} {n : Int} {lang : ByteArray} (h : FBox w rv bv lv vv n lang W) (v : Val) (s : Bool) : FRes w v s (((((W.setCell ⟨w.heap.size + 3, 0, none⟩ (.int .i64 v.unit)).setCell ⟨w.heap.size + 3, 1, none⟩ (.int .i64 v.elem)).setCell ⟨w.heap.size + 3, 2, none⟩ (.string v.lang)).setCell ⟨w.heap.size + 3, 3, none⟩ (.string v.text)).setCell ⟨w.heap.size + 4, 0, none⟩ (.bool s)) := by
  obtain ⟨⟨q0, q1, q2, q3⟩, -⟩ := four_cells h.v
  obtain ⟨p0, p1, p2, p3⟩ := res_four (v0 := .int .i64 v.unit) (v1 := .int .i64 v.elem) (v2 := .string v.lang) (v3 := .string v.text) q0 q1 q2 q3
  have hb := (one_cell h.b).1
  have hlt := (Array.getElem?_eq_some_iff.1 h.b).1
  refine ⟨Grew.setCell (grew_four h.g (by omega) _ _ _ _) (by simp) _, by simpa using hlt, ?_, ?_, ?_, ?_, ?_⟩
  · rw [World.cell?_setCell_other _ _ _ _ (by simp)]; exact p0
  · rw [World.cell?_setCell_other _ _ _ _ (by simp)]; exact p1
  · rw [World.cell?_setCell_other _ _ _ _ (by simp)]; exact p2
  · rw [World.cell?_setCell_other _ _ _ _ (by simp)]; exact p3
  · refine World.cell?_setCell_same' _ _ _ ?_
    rw [World.cell?_setCell_other _ _ _ _ (by simp), World.cell?_setCell_other _ _ _ _ (by simp), World.cell?_setCell_other _ _ _ _ (by simp), World.cell?_setCell_other _ _ _ _ (by simp), hb]
    rfl
theorem keeps_set5 {W : World} {a0 a1 a2 a3 a4 : Addr} {v0 v1 v2 v3 v4 : Value} : KeepsOthers W (((((W.setCell a0 v0).setCell a1 v1).setCell a2 v2).setCell a3 v3).setCell a4 v4) :=
  ((((KeepsOthers.setCell W _ _).trans (KeepsOthers.setCell _ _ _)).trans (KeepsOthers.setCell _ _ _)).trans (KeepsOthers.setCell _ _ _)).trans (KeepsOthers.setCell _ _ _)
set_option maxRecDepth 100000 in
set_option maxHeartbeats 8000000 in
theorem iFound (t : Tr) (vs : List Val) (u n : Int) (lang : ByteArray) (rv bv lv vv : Value) (w : World) (hT : RightT t) (hv : SlBr w bv t.brs) (hvv : SlV w vv vs) (hu : u = 0 ∨ ∃ b, brFind t.brs u = some b) :
    Calls Tryz.prog 85 #[.agg #[rv, bv, lv, vv], .int .i64 u, .int .i64 n, .string lang] w (RetV (foundF t.brs vs u n lang) w) := by
  have KG := Lib.hid (fun W x (hW : Grew w W) => get_any vs x n lang vv W (hvv.mono hW))
  have KI := Lib.hid (fun W => inherited_any n W)
  have KU := Lib.hid (fun X Sb m W hG hXn hne hSb hXb => upStops t rv bv lv vv w hT hv u hu X Sb m W hG hXn hne hSb hXb)
  have hfound : foundF t.brs vs u n lang = alongF vs (kindOf n).inh n lang (wayL t.brs u) := rfl
  rw [hfound]
  generalize wayL t.brs u = L at KU ⊢
  have HST := Lib.hid (fun x r => along_step (vs := vs) (inh := (kindOf n).inh) (n := n) (lang := lang) (x := x) (r := r))
  generalize hinh : (kindOf n).inh = inh at KI HST ⊢
  clear hT hv hvv hu hfound hinh
  refine (callsIn_wide (n := 9)).1 ?_
  refine callsIn_of_wp_marks Tryz.func85 rfl trivial ?_ rfl
  simp only [Tryz.ntmps85, List.size_toArray, List.length_cons, List.length_nil, Nat.reduceAdd, Nat.reduceSub, Array.replicate_succ, Array.replicate_zero, List.push_toArray, List.append_toArray, List.nil_append, List.cons_append]
  gi_wp2_with fail
  refine ⟨trivial, (callsIn_wide.2 (iUpwards rv bv lv vv u _)).mono ?_⟩
  rintro e w2 ⟨rfl, hw2⟩
  have hFA := fbox_new w rv bv lv vv n lang
  have hsA : (((((w.alloc (.cells #[rv, bv, lv, vv] 114)).alloc (.cells #[.int .i64 n] 3)).alloc (.cells #[.string lang] 9)).alloc (.cells #[.int .i64 0, .int .i64 0, .string ⟨#[]⟩, .string ⟨#[]⟩] 29)).alloc (.cells #[.bool false] 4)).heap.size = w.heap.size + 5 := by simp
  generalize (((((w.alloc (.cells #[rv, bv, lv, vv] 114)).alloc (.cells #[.int .i64 n] 3)).alloc (.cells #[.string lang] 9)).alloc (.cells #[.int .i64 0, .int .i64 0, .string ⟨#[]⟩, .string ⟨#[]⟩] 29)).alloc (.cells #[.bool false] 4)) = WA at hFA hsA hw2 ⊢
  have hSb : w2.heap[w.heap.size + 5]? = some (.cells #[rv, bv, lv, vv] 114 (0, 0)) := by
    have h := heap_newI WA (.cells #[rv, bv, lv, vv] 114)
    rw [hsA] at h
    rw [← hw2]
    exact heap_keepI ((Grew.refl _).alloc _) h
  have hXb : Boxed w2 (w.heap.size + 6) 3 (.int .i64 u) := by
    have h := Boxed.new (WA.alloc (.cells #[rv, bv, lv, vv] 114)) 3 (.int .i64 u)
    rw [World.size_alloc, hsA] at h
    rw [← hw2]
    exact h
  have hsz : w2.heap.size = w.heap.size + 7 := by rw [← hw2, World.size_alloc, World.size_alloc, hsA]
  have hFB : FBox w rv bv lv vv n lang w2 := by
    rw [← hw2]
    exact hFA.grew (((Grew.refl _).alloc _).alloc _)
  have hst := KU.out (w.heap.size + 6) (w.heap.size + 5) 8 w2 hFB.g (by omega) (by omega) hSb hXb
  rw [hsA]
  clear hSb hXb hw2 hFA hsA WA
  dsimp only
  gi_wp2_with fail
  simp only [Nat.add_assoc, Nat.reduceAdd]
  refine wpIn_rangeU rfl (by omega) (gf := 193) (lb := #[.pointer (some ⟨w.heap.size + 6, 0, none⟩), .pointer (some ⟨w.heap.size + 5, 0, none⟩)]) rfl trivial (enters_of Tryz.func193 (by kernel_rfl) rfl)
    (n₀ := w.heap.size) (X := w.heap.size + 6) (by omega) (by omega) hst (fun _ => rfl)
    (fun pre W => (∀ r, alongF vs inh n lang (pre ++ r) = alongF vs inh n lang r) ∧ FBox w rv bv lv vv n lang W)
    (fun c pre W => (c = .ret ∧ ∃ v, (∀ r, alongF vs inh n lang (pre ++ r) = some v) ∧ FRes w v true W) ∨ (c = .exit 0 ∧ (∀ r, alongF vs inh n lang (pre ++ r) = none) ∧ FBox w rv bv lv vv n lang W))
    (fun _ _ _ _ hs hg hr => ⟨hs.1, hs.2.turn hg (fun r e => by rcases hr r e with h | h <;> omega)⟩)
    (fun _ _ _ _ _ hs hg hr => hs.imp (fun ⟨h1, v, h2, h3⟩ => ⟨h1, v, h2, h3.turn hg (fun r e => by rcases hr r e with h | h <;> omega)⟩) (fun ⟨h1, h2, h3⟩ => ⟨h1, h2, h3.turn hg (fun r e => by rcases hr r e with h | h <;> omega)⟩))
    ⟨fun _ => rfl, hFB⟩
    (fun x => { tmps := #[.agg #[rv, bv, lv, vv], .int .i64 u, .int .i64 n, .string lang, .pointer (some ⟨w.heap.size, 0, none⟩), undef, .pointer (some ⟨w.heap.size + 1, 0, none⟩), .pointer (some ⟨w.heap.size + 2, 0, none⟩), .pointer (some ⟨w.heap.size + 3, 0, none⟩), .pointer (some ⟨w.heap.size + 4, 0, none⟩), .int .i64 x, undef, undef, .agg #[rv, bv, lv, vv], .int .i64 u, .func (.func 193) #[] #[.pointer (some ⟨w.heap.size + 6, 0, none⟩), .pointer (some ⟨w.heap.size + 5, 0, none⟩)], .int .i64 x, undef, undef, undef, undef, undef, undef, undef, undef, undef, undef, undef, undef, undef, undef, undef, undef, undef, undef, undef], defers := [] }) ?assign ?body ?done ?stop
  case assign =>
    intro l x W K hK
    gi_wp2
    exact hK
  case body =>
    rintro l pre x W ⟨hpre, hB⟩ -
    have HB := Lib.hid hB
    have HPRE := Lib.hid hpre
    obtain ⟨⟨x0, x1, x2, x3⟩, -⟩ := four_cells hB.s
    have y0 := (one_cell hB.n).1
    have z0 := (one_cell hB.l).1
    clear hB hpre hFB hst
    gi_wp2_with fail
    refine ⟨trivial, (callsIn_wide.2 (KG.out _ x HB.out.g)).mono ?_⟩
    rintro e w3 ⟨rfl, g3⟩
    have G3 := Lib.hid g3
    have HB3 := Lib.hid (HB.out.grew g3)
    have hs := HST.out x
    unfold ownV at hs
    clear x0 x1 x2 x3 y0 z0 g3
    have y0 := (one_cell HB3.out.n).1
    have z0 := (one_cell HB3.out.l).1
    obtain ⟨⟨q0, q1, q2, q3⟩, f0, f1, f2, f3⟩ := four_cells HB3.out.v
    obtain ⟨r0, fr0⟩ := one_cell HB3.out.b
    cases hg : getF vs x n lang with
    | some s =>
      rw [hg] at hs
      dsimp only [Option.map_some] at hs
      have HSS := Lib.hid hs
      unfold optS
      dsimp only [Option.getD_some, Option.isSome_some]
      clear hs hg
      gi_wp2_with fail
      refine ⟨(keeps_grew G3.out).trans keeps_set5, .inl ⟨rfl, ⟨x, n, lang, s⟩, fun r => ?_, fres_set HB3.out ⟨x, n, lang, s⟩ true⟩⟩
      rw [List.append_assoc, HPRE.out]
      exact HSS.out r
    | none =>
      rw [hg] at hs
      dsimp only [Option.map_none] at hs
      have HSS := Lib.hid hs
      dsimp only [Option.isSome_none]
      clear hs hg
      gi_wp2_with fail
      refine ⟨trivial, (callsIn_wide.2 (KI.out _)).mono ?_⟩
      rintro e w4 ⟨rfl, g4⟩
      have G4 := Lib.hid (G3.out.trans g4)
      have HB4 := Lib.hid (HB3.out.grew g4)
      clear g4 y0 z0 q0 q1 q2 q3 f0 f1 f2 f3 r0 fr0
      cases inh with
      | true =>
        dsimp only
        gi_wp2
        refine ⟨keeps_grew G4.out, KpN.grew HB.out.g.size G4.out, fun r => ?_, HB4.out⟩
        rw [List.append_assoc, HPRE.out]
        exact HSS.out r
      | false =>
        dsimp only
        gi_wp2
        refine ⟨keeps_grew G4.out, .inr ⟨rfl, fun r => ?_, HB4.out⟩⟩
        rw [List.append_assoc, HPRE.out]
        exact HSS.out r
  case done =>
    rintro D xs W hD rfl ⟨hpre, hB⟩ hK
    have hn : alongF vs inh n lang xs = none := by have := hpre []; rwa [List.append_nil] at this
    obtain ⟨⟨q0, q1, q2, q3⟩, f0, f1, f2, f3⟩ := four_cells hB.v
    obtain ⟨r0, fr0⟩ := one_cell hB.b
    have HN := Lib.hid hn
    have HR := Lib.hid ((fres_set hB val0 false).turn (grownBy_putObj' _ D (.deferred none)) (fun r e => by cases e; omega))
    have HK := Lib.hid hK
    clear hn hpre hB hK hst KU
    gi_wp2
    refine ⟨by simp, .inl ⟨_, _, rfl, run_takeDeferred (keeps_set5.same _ _ HK.out rfl), ?_⟩⟩
    have hr : FRes w val0 false ((((((W.setCell ⟨w.heap.size + 3, 0, none⟩ (.int .i64 0)).setCell ⟨w.heap.size + 3, 1, none⟩ (.int .i64 0)).setCell ⟨w.heap.size + 3, 2, none⟩ (.string ⟨#[]⟩)).setCell ⟨w.heap.size + 3, 3, none⟩ (.string ⟨#[]⟩)).setCell ⟨w.heap.size + 4, 0, none⟩ (.bool false)).putObj D (.deferred none)) := HR.out
    generalize ((((((W.setCell ⟨w.heap.size + 3, 0, none⟩ (.int .i64 0)).setCell ⟨w.heap.size + 3, 1, none⟩ (.int .i64 0)).setCell ⟨w.heap.size + 3, 2, none⟩ (.string ⟨#[]⟩)).setCell ⟨w.heap.size + 3, 3, none⟩ (.string ⟨#[]⟩)).setCell ⟨w.heap.size + 4, 0, none⟩ (.bool false)).putObj D (.deferred none)) = WW at hr ⊢
    obtain ⟨hg, -, p0, p1, p2, p3, p4⟩ := hr
    unfold val0 at p0 p1 p2 p3
    dsimp only at p0 p1 p2 p3
    refine ⟨.tuple #[.agg #[.int .i64 0, .int .i64 0, .string ⟨#[]⟩, .string ⟨#[]⟩], .bool false], by simp [results, Tryz.results85, go_sem, p0, p1, p2, p3, p4], ?_⟩
    exact ⟨by rw [HN.out]; rfl, hg⟩
  case stop =>
    rintro D c pre W hD ⟨suf, hSp⟩ (⟨rfl, v, hv, hR⟩ | ⟨rfl, hno, hB⟩) hK
    · have hn := hv suf
      rw [hSp] at hn
      have HN := Lib.hid hn
      have HR := Lib.hid (hR.turn (grownBy_putObj' _ D (.deferred none)) (fun r e => by cases e; omega))
      have HK := Lib.hid hK
      clear hn hv hR hK hst KU hSp
      gi_wp2
      refine ⟨by simp, .inl ⟨_, _, rfl, run_takeDeferred HK.out, ?_⟩⟩
      have p0 := HR.out.c0
      have p1 := HR.out.c1
      have p2 := HR.out.c2
      have p3 := HR.out.c3
      have p4 := HR.out.b
      refine ⟨.tuple #[.agg #[.int .i64 v.unit, .int .i64 v.elem, .string v.lang, .string v.text], .bool true], by simp [results, Tryz.results85, go_sem, p0, p1, p2, p3, p4], ?_⟩
      exact ⟨by rw [HN.out]; rfl, HR.out.g⟩
    · have hn := hno suf
      rw [hSp] at hn
      obtain ⟨⟨q0, q1, q2, q3⟩, f0, f1, f2, f3⟩ := four_cells hB.v
      obtain ⟨r0, fr0⟩ := one_cell hB.b
      have HN := Lib.hid hn
      have HR := Lib.hid ((fres_set hB val0 false).turn (grownBy_putObj' _ D (.deferred none)) (fun r e => by cases e; omega))
      have HK := Lib.hid hK
      clear hn hno hB hK hst KU hSp
      gi_wp2
      refine ⟨by simp, .inl ⟨_, _, rfl, run_takeDeferred (keeps_set5.same _ _ HK.out rfl), ?_⟩⟩
      have hr : FRes w val0 false ((((((W.setCell ⟨w.heap.size + 3, 0, none⟩ (.int .i64 0)).setCell ⟨w.heap.size + 3, 1, none⟩ (.int .i64 0)).setCell ⟨w.heap.size + 3, 2, none⟩ (.string ⟨#[]⟩)).setCell ⟨w.heap.size + 3, 3, none⟩ (.string ⟨#[]⟩)).setCell ⟨w.heap.size + 4, 0, none⟩ (.bool false)).putObj D (.deferred none)) := HR.out
      generalize ((((((W.setCell ⟨w.heap.size + 3, 0, none⟩ (.int .i64 0)).setCell ⟨w.heap.size + 3, 1, none⟩ (.int .i64 0)).setCell ⟨w.heap.size + 3, 2, none⟩ (.string ⟨#[]⟩)).setCell ⟨w.heap.size + 3, 3, none⟩ (.string ⟨#[]⟩)).setCell ⟨w.heap.size + 4, 0, none⟩ (.bool false)).putObj D (.deferred none)) = WW at hr ⊢
      obtain ⟨hg, -, p0, p1, p2, p3, p4⟩ := hr
      unfold val0 at p0 p1 p2 p3
      dsimp only at p0 p1 p2 p3
      refine ⟨.tuple #[.agg #[.int .i64 0, .int .i64 0, .string ⟨#[]⟩, .string ⟨#[]⟩], .bool false], by simp [results, Tryz.results85, go_sem, p0, p1, p2, p3, p4], ?_⟩
      exact ⟨by rw [HN.out]; rfl, hg⟩
end Go.Proofs.YtjaknioojpgkiaaGreatDoor
