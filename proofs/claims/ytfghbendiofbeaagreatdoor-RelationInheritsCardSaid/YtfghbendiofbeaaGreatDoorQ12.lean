/- Lemmas on what the functions of the program and of the library compute: Gr2, T5. The conditions stand at each. -/
import Derived.Test.YtfghbendiofbeaaGreatDoorQ10
import Derived.Test.YtfghbendiofbeaaGreatDoorQ11
/- Regions that draw their order, whose last operation waits for all others and may do whatever it does (a store): the others are walked once, in every world that grew out of one. No condition. -/
namespace Go.Proofs.YtfghbendiofbeaaGreatDoor
open Go.RowKit

section
variable {P : Program} {md : Region.Mode} {ops ops' : Array Oper} {C : World → Prop}
/-- The last operation of ops waits for all others; ops' has a blank in its place. -/
structure LastOp (md : Region.Mode) (ops ops' : Array Oper) (n : Nat) (o : Oper) : Prop where
  size : ops.size = n + 1
  size' : ops'.size = n + 1
  same : ∀ i : Nat, i < n → ops'[i]? = ops[i]?
  here : ops[n]? = some o
  guard : o.guard = none
  blank : ∃ o', ops'[n]? = some o' ∧ o'.dst = none ∧ o'.guard = none ∧ o'.after = o.after ∧ o.dst = none
  waits : ∀ i : Nat, i < n → ∃ e ∈ o.after, Region.binds md e = true ∧ e.on = i
  low : ∀ (j : Nat) (oj : Oper), ops[j]? = some oj → ∀ e ∈ oj.after, e.on < j
variable {n : Nat} {o : Oper}
theorem LastOp.get (L : LastOp md ops ops' n o) (i : Nat) : (ops'[i]?).map Oper.after = (ops[i]?).map Oper.after ∧ (ops'[i]?).bind Oper.dst = (ops[i]?).bind Oper.dst := by
  rcases Nat.lt_trichotomy i n with h | h | h
  · rw [L.same i h]; exact ⟨rfl, rfl⟩
  · subst h
    obtain ⟨o', h1, h2, _, h4, h5⟩ := L.blank
    rw [h1, L.here]
    simp [h2, h4, h5]
  · rw [Array.getElem?_eq_none (by have := L.size; have := L.size'; omega), Array.getElem?_eq_none (by have := L.size; have := L.size'; omega)]
    exact ⟨rfl, rfl⟩
theorem LastOp.ready (L : LastOp md ops ops' n o) (listed : Array Bool) : Region.ready md ops' listed = Region.ready md ops listed := by
  unfold Region.ready
  rw [L.size, L.size']
  refine List.filter_congr fun i _ => ?_
  have := (L.get i).1
  cases h1 : ops[i]? <;> cases h2 : ops'[i]? <;> rw [h1, h2] at this <;> simp at this ⊢
  rw [this]
theorem LastOp.yielded (L : LastOp md ops ops' n o) : Go.yielded ops' = Go.yielded ops := by
  funext tmps j
  unfold Go.yielded
  rw [(L.get j).2]
theorem LastOp.some_ready (L : LastOp md ops ops' n o) (listed : Array Bool) (hs : listed.size = n + 1) : ∀ i, i ≤ n → listed.getD i true = false → Region.ready md ops listed ≠ [] := by
  intro i
  induction i using Nat.strongRecOn with
  | _ i ih =>
    intro hi hun h0
    obtain ⟨oi, hoi⟩ : ∃ oi, ops[i]? = some oi := ⟨_, Array.getElem?_eq_getElem (by have := L.size; omega)⟩
    by_cases hall : ∀ e ∈ oi.after, Region.binds md e = true → listed.getD e.on false = true
    · have : i ∈ Region.ready md ops listed := mem_ready.2 ⟨hun, oi, hoi, hall⟩
      rw [h0] at this
      cases this
    · have : ∃ e ∈ oi.after, listed.getD e.on false ≠ true := Classical.byContradiction fun hn => hall fun e he _ => Classical.byContradiction fun h => hn ⟨e, he, h⟩
      obtain ⟨e, he, hne⟩ := this
      have hlt := L.low i oi hoi e he
      have hin : e.on < listed.size := by omega
      refine ih e.on hlt (by omega) ?_ h0
      simp only [Bool.not_eq_true] at hne
      rw [Array.getD_eq_getD_getElem?, Array.getElem?_eq_getElem hin] at hne ⊢
      simpa using hne
theorem LastOp.none_ready (L : LastOp md ops ops' n o) (listed : Array Bool) (hs : listed.size = n + 1) (hn : n ∈ Region.ready md ops listed) : Region.ready md ops (listed.setIfInBounds n true) = [] := by
  rw [List.eq_nil_iff_forall_not_mem]
  intro i hi
  obtain ⟨hun, oi, hoi, _⟩ := mem_ready.1 hi
  have hlt : i < ops.size := (Array.getElem?_eq_some_iff.1 hoi).1
  have := L.size
  by_cases h : i = n
  · subst h
    rw [Array.getD_eq_getD_getElem?, Array.getElem?_setIfInBounds_self_of_lt (by omega)] at hun
    cases hun
  · rw [getD_set_ne true (fun e => h e.symm)] at hun
    obtain ⟨_, on, hon, hall⟩ := mem_ready.1 hn
    have : on = o := Option.some.inj (hon.symm.trans L.here)
    subst this
    obtain ⟨e, he, hb, hei⟩ := L.waits i (by omega)
    have h2 := hall e he hb
    rw [hei, Array.getD_eq_getD_getElem?, Array.getElem?_eq_getElem (by omega)] at h2
    rw [Array.getD_eq_getD_getElem?, Array.getElem?_eq_getElem (by omega)] at hun
    simp at h2 hun
    rw [h2] at hun
    cases hun
theorem last_step (L : LastOp md ops ops' n o) {Q : Act → Prop} {Q' : Exit → Act → World → Prop} (hQ : ∀ a w, C w → Q a → o.wp P a w (Q' .normal) Q') (fuel : Nat) (listed : Array Bool) (a : Act) (w : World) (hC : C w) (hs : listed.size = n + 1) (hun : listed.getD n true = false)
    (ih : ∀ (listed : Array Bool) (a : Act) (w : World), C w → listed.size = n + 1 → listed.getD n true = false → wpAnyQ P md ops' C Q fuel listed a → wpAny P md ops Q' fuel listed a w)
    (h : wpAnyQ P md ops' C Q (fuel + 1) listed a) : wpAny P md ops Q' (fuel + 1) listed a w := by
  refine ⟨fun h0 => absurd h0 (L.some_ready listed hs n (Nat.le_refl _) hun), fun i hi => ?_⟩
  have hi' : i ∈ Region.ready md ops' listed := by rw [L.ready]; exact hi
  have hq := h.2 i hi'
  obtain ⟨_, oi, hoi, _⟩ := mem_ready.1 hi
  have hlt : i < n + 1 := by rw [← L.size]; exact (Array.getElem?_eq_some_iff.1 hoi).1
  by_cases hin : i = n
  · subst hin
    obtain ⟨o', h1, h2, h3, _, _⟩ := L.blank
    have hnil := L.none_ready listed hs hi
    have hQa : Q a := by
      unfold qOp at hq
      rw [h1] at hq
      have hw : Region.wanted o' (yielded ops' a.tmps) = true := by simp [Region.wanted, h3]
      simp only [hw, if_true] at hq
      obtain ⟨v, _, hk⟩ := hq
      rw [h2] at hk
      have hk2 : wpAnyQ P md ops' C Q fuel (listed.setIfInBounds i true) a := hk
      cases fuel with
      | zero => exact hk2.2
      | succ fuel => exact hk2.1 (by rw [L.ready]; exact hnil)
    unfold wpOp
    rw [L.here]
    have hw : Region.wanted o (yielded ops a.tmps) = true := by simp [Region.wanted, L.guard]
    simp only [hw, if_true]
    refine .inl (Oper.wp_mono (fun a' w' hq' => ?_) (hQ a w hC hQa))
    cases fuel with
    | zero => exact ⟨hnil, hq'⟩
    | succ fuel => exact ⟨fun _ => hq', fun j hj => by rw [hnil] at hj; cases hj⟩
  · have hq2 : qOp P ops C i (wpAnyQ P md ops' C Q fuel (listed.setIfInBounds i true)) a := by
      unfold qOp at hq ⊢
      rw [L.same i (by omega), L.yielded] at hq
      exact hq
    refine wpOp_of_qOp hC (fun a' w' hC' hk => ?_) hq2
    exact ih _ a' w' hC' (by simpa using hs) (by rw [getD_set_ne true (fun e => hin e)]; exact hun) hk
theorem last_any (L : LastOp md ops ops' n o) {Q : Act → Prop} {Q' : Exit → Act → World → Prop} (hQ : ∀ a w, C w → Q a → o.wp P a w (Q' .normal) Q') : ∀ (fuel : Nat) (listed : Array Bool) (a : Act) (w : World), C w → listed.size = n + 1 → listed.getD n true = false →
    wpAnyQ P md ops' C Q fuel listed a → wpAny P md ops Q' fuel listed a w
  | 0, listed, _, _, _, hs, hun, h => absurd (by rw [← L.ready]; exact h.1) (L.some_ready listed hs n (Nat.le_refl _) hun)
  | fuel + 1, listed, a, w, hC, hs, hun, h => last_step L hQ fuel listed a w hC hs hun (last_any L hQ fuel) h
end

/-- The operations with a blank in the place of the last. -/
def blankLast : List Oper → List Oper
  | [] => []
  | [o] => [{ o with op := .move (.const (.bool true)) }]
  | x :: y :: r => x :: blankLast (y :: r)
def lastB (l : List Oper) : Bool := match l.getLast? with
  | none => false
  | some o => o.guard.isNone && o.dst.isNone && (List.range (l.length - 1)).all (fun i => o.after.any fun e => Region.binds .any e && e.on == i) && (List.range l.length).all fun j => match l[j]? with
    | none => true
    | some oj => oj.after.all fun e => decide (e.on < j)
theorem blankLast_len : ∀ l : List Oper, (blankLast l).length = l.length
  | [] => rfl
  | [_] => rfl
  | x :: y :: r => by simp [blankLast, blankLast_len (y :: r)]
theorem blankLast_get : ∀ (l : List Oper) (i : Nat), i + 1 < l.length → (blankLast l)[i]? = l[i]?
  | [], i, h => by simp at h
  | [_], i, h => by simp at h
  | x :: y :: r, 0, _ => rfl
  | x :: y :: r, i + 1, h => by
    simp only [blankLast, List.getElem?_cons_succ]
    exact blankLast_get (y :: r) i (by simpa using h)
theorem blankLast_last : ∀ (l : List Oper) (o : Oper), l.getLast? = some o → (blankLast l)[l.length - 1]? = some { o with op := .move (.const (.bool true)) }
  | [], _, h => by simp at h
  | [x], o, h => by simp at h; subst h; rfl
  | x :: y :: r, o, h => by
    have := blankLast_last (y :: r) o (by simpa using h)
    simp only [blankLast, List.length_cons] at this ⊢
    simpa using this
theorem lastOp_of (l : List Oper) (o : Oper) (ho : l.getLast? = some o) (h : lastB l = true) : LastOp .any l.toArray (blankLast l).toArray (l.length - 1) o := by
  have hpos : 0 < l.length := by cases l <;> simp at ho ⊢
  unfold lastB at h
  rw [ho] at h
  simp only [Bool.and_eq_true, List.all_eq_true, Option.isNone_iff_eq_none] at h
  obtain ⟨⟨⟨hg, hd⟩, hw⟩, hl⟩ := h
  refine ⟨by simp; omega, by simp [blankLast_len]; omega, fun i hi => ?_, ?_, hg, ⟨{ o with op := .move (.const (.bool true)) }, by simpa using blankLast_last l o ho, hd, hg, rfl, hd⟩, fun i hi => ?_, fun j oj hj e he => ?_⟩
  · simpa using blankLast_get l i (by omega)
  · rw [List.getLast?_eq_getElem?] at ho
    simpa using ho
  · have := hw i (List.mem_range.2 hi)
    obtain ⟨e, he, hb⟩ := Array.any_eq_true'.1 this
    simp only [Bool.and_eq_true, beq_iff_eq] at hb
    exact ⟨e, he, hb.1, hb.2⟩
  · have hj' : l[j]? = some oj := by simpa using hj
    have hjl : j < l.length := (List.getElem?_eq_some_iff.1 hj').1
    have := hl j (List.mem_range.2 hjl)
    rw [hj'] at this
    simpa using Array.all_eq_true'.1 this e he
theorem region_gr_last {P : Program} {id : Nat} {Q : Exit → Act → World → Prop} {a : Act} {w : World} {l : List Oper} (w0 : World) (o : Oper) (ho : l.getLast? = some o) (hm : P.follows .mixedOrders = true) (hL : lastB l = true) (hB : Region.lexB .any (blankLast l).toArray = true) (hg : Grew w0 w)
    (h : wpQuiet P (blankLast l).toArray (fun W' => ∃ i : Gr w0, W' = i.W) (fun a' => ∀ W', (∃ i : Gr w0, W' = i.W) → o.wp P a' W' (Q .normal) Q) (blankLast l) a) : (Code.region id l.toArray true).wp P Q a w := by
  have L := lastOp_of l o ho hL
  have hpos : 0 < l.length := by cases l <;> simp at ho ⊢
  simp only [Region.lexB, Bool.and_eq_true] at hB
  refine wp_region_any hm ?_
  have hq := wpAnyQ_lex (P := P) (C := fun W' => ∃ i : Gr w0, W' = i.W) (md := .any) hB.1 (blankLast l) 0 (Array.replicate (blankLast l).toArray.size false) a (by simp) (by simpa using hB.2) h
  have hsz : (blankLast l).length = l.toArray.size := by simp [blankLast_len]
  have hsz2 : (blankLast l).toArray.size = l.toArray.size := by simp [blankLast_len]
  rw [hsz, hsz2] at hq
  refine last_any L (fun a' w' hC hq' => hq' w' hC) _ _ _ _ ⟨⟨w.drew, hg.drew⟩, rfl⟩ (by simp; omega) ?_ hq
  rw [Array.getD_eq_getD_getElem?, Array.getElem?_eq_getElem (by simp; omega)]
  simp
end Go.Proofs.YtfghbendiofbeaaGreatDoor

/- tree: the check of the children, depth, walked. The condition: the lists are short; for depth: each unit is placed. -/
namespace Go.Proofs.YtfghbendiofbeaaGreatDoor
open Go.RowKit

def FewBr (l : List Br) : Prop := l.length ≤ 1000000 ∧ ∀ i (h : i < l.length), l[i].kids.length ≤ 1000000
set_option maxHeartbeats 2000000 in
theorem tKids (l : List Br) (i : Nat) (hi : i < l.length) (rv bv : Value) (w : World) (hv : SlBr w bv l) (hf : FewBr l) :
    Calls Tryz.prog 94 #[.agg #[rv, bv], .int .i64 i] w (RetIff (sortI l[i].kids = kidsOf l l[i].id) w) := by
  have HV := Lib.hid hv
  obtain ⟨A, c, rfl, hlc, hc, hr⟩ := hv.open_
  unfold maxLen at hc
  obtain ⟨b, off, rfl, hbk, hcell⟩ := hr (by omega)
  obtain ⟨kv, hkv, hcl⟩ := hcell i hi
  obtain ⟨c0, c1, c2, c3, c4, c5⟩ := hcl w (Grew.refl w)
  have kJ := fun W (hW : Grew w W) => tJust l l[i].id l[i].kids rv (.slice (some ⟨b, off, none⟩) l.length c) kv W (HV.out.mono hW) (hkv.mono hW) hf.1 (hf.2 i hi)
  have hiz : (i : Int) < (l.length : Int) := by omega
  have h0z : (0 : Int) ≤ (i : Int) := by omega
  obtain ⟨Az, cz, rfl, -, -, -⟩ := hkv.open_
  by_cases hS : sortI l[i].kids = kidsOf l l[i].id
  · have HS := Lib.hid hS
    rw [decide_eq_true hS] at kJ
    clear hS hcell hcl hr hv hkv hf
    generalize (sortI l[i].kids = kidsOf l l[i].id) = PA at HS ⊢
    generalize l[i] = y at c0 c1 c2 c3 c4 c5 kJ
    obtain ⟨yi, yp, yl, yt, ym, yk⟩ := y
    dsimp only at c0 c1 c2 c3 c4 c5 kJ
    have KJ := Lib.hid kJ
    clear kJ
    go_enter Tryz.func94, Tryz.ntmps94
    go_wp2_with fail
    refine (KJ.out _ (((Grew.refl w).alloc _).alloc _)).mono ?_
    rintro e w1 ⟨rfl, g1⟩
    dsimp only
    go_wp2
    go_ret
    exact RetIff.yes HS.out ((((Grew.refl w).alloc _).alloc _).trans g1)
  · have HS := Lib.hid hS
    rw [decide_eq_false hS] at kJ
    clear hS hcell hcl hr hv hkv hf
    generalize (sortI l[i].kids = kidsOf l l[i].id) = PA at HS ⊢
    generalize l[i] = y at c0 c1 c2 c3 c4 c5 kJ
    obtain ⟨yi, yp, yl, yt, ym, yk⟩ := y
    dsimp only at c0 c1 c2 c3 c4 c5 kJ
    have KJ := Lib.hid kJ
    clear kJ
    go_enter Tryz.func94, Tryz.ntmps94
    go_wp2_with fail
    refine (KJ.out _ (((Grew.refl w).alloc _).alloc _)).mono ?_
    rintro e w1 ⟨rfl, g1⟩
    dsimp only
    go_wp2
    go_ret
    exact RetIff.no 10 (by decide) HS.out ((((Grew.refl w).alloc _).alloc _).trans g1)

/-- A block that holds a unit. -/
def HoldsU (W : World) (C : Nat) (y : Br) : Prop := W.heap[C]? = some (.cells #[.int .i64 y.id, .int .i64 y.parent, .int .i64 y.level, .string y.title, .string y.mark] 57)
theorem HoldsU.cells {W : World} {C : Nat} {y : Br} (h : HoldsU W C y) : W.cell? ⟨C, 0, none⟩ = some (.int .i64 y.id) ∧ W.cell? ⟨C, 1, none⟩ = some (.int .i64 y.parent) ∧ W.cell? ⟨C, 2, none⟩ = some (.int .i64 y.level) ∧ W.cell? ⟨C, 3, none⟩ = some (.string y.title) ∧ W.cell? ⟨C, 4, none⟩ = some (.string y.mark) := by
  refine ⟨?_, ?_, ?_, ?_, ?_⟩ <;> rw [cell_of_row _ _ _ _ _ _ h] <;> simp
theorem HoldsU.free {W : World} {C : Nat} {y : Br} (h : HoldsU W C y) (j : Nat) : W.frozen? ⟨C, j, none⟩ = false := by
  unfold HoldsU at h
  simp [World.frozen?, h]
theorem HoldsU.mono {W W' : World} {C : Nat} {y : Br} (h : HoldsU W C y) (hg : Grew W W') : HoldsU W' C y := by
  have hlt : C < W.heap.size := by
    rcases Nat.lt_or_ge C W.heap.size with hlt | hge
    · exact hlt
    · unfold HoldsU at h; rw [Array.getElem?_eq_none hge] at h; cases h
  exact (hg.block C hlt).trans h
theorem holdsU_new (w : World) (o : Obj) (y : Br) : HoldsU ((w.alloc o).alloc (.cells #[.int .i64 y.id, .int .i64 y.parent, .int .i64 y.level, .string y.title, .string y.mark] 57)) (w.heap.size + 1) y := by
  have := heap_alloc_new (w.alloc o) (.cells #[.int .i64 y.id, .int .i64 y.parent, .int .i64 y.level, .string y.title, .string y.mark] 57)
  unfold HoldsU
  simpa using this
theorem holdsU_last (w : World) (y : Br) : HoldsU (w.alloc (.cells #[.int .i64 y.id, .int .i64 y.parent, .int .i64 y.level, .string y.title, .string y.mark] 57)) w.heap.size y := heap_alloc_new w _
theorem holdsU_lastH (w : World) (H : Nat) (h : w.heap.size = H) (y : Br) : HoldsU (w.alloc (.cells #[.int .i64 y.id, .int .i64 y.parent, .int .i64 y.level, .string y.title, .string y.mark] 57)) H y := by
  subst h
  exact holdsU_last w y
theorem HoldsU.lt {W : World} {C : Nat} {y : Br} (h : HoldsU W C y) : C < W.heap.size := by
  rcases Nat.lt_or_ge C W.heap.size with hlt | hge
  · exact hlt
  · unfold HoldsU at h; rw [Array.getElem?_eq_none hge] at h; cases h
theorem deep_zero (l : List Br) (n : Nat) (b : Br) (h : b.parent = 0) : deep l n b = some 1 := by cases n <;> simp [deep, h]
theorem deep_up (l : List Br) (n : Nat) (b p : Br) (h : b.parent ≠ 0) (hp : brFind l b.parent = some p) : deep l (n + 1) b = (deep l n p).map (· + 1) := by simp [deep, h, hp]
theorem deep_cycle (l : List Br) (b : Br) (h : b.parent ≠ 0) : deep l 0 b = none := by simp [deep, h]
set_option maxRecDepth 100000 in
set_option maxHeartbeats 4000000 in
theorem tDepth (l : List Br) (i : Nat) (hi : i < l.length) (rv bv : Value) (w : World) (hv : SlBr w bv l) (hlen : l.length ≤ 1000000) (hP : ∀ i (h : i < l.length), BrPlaced l l[i]) :
    Calls Tryz.prog 98 #[.agg #[rv, bv], .int .i64 i] w (RetIff (BrDeep l l[i]) w) := by
  have HV := Lib.hid hv
  obtain ⟨A, c, rfl, hlc, hc, hr⟩ := hv.open_
  unfold maxLen at hc
  obtain ⟨b, off, rfl, hbk, hcell⟩ := hr (by omega)
  have HCELL := Lib.hid hcell
  obtain ⟨kv, -, hcl⟩ := hcell i hi
  obtain ⟨c0, c1, c2, c3, c4, -⟩ := hcl w (Grew.refl w)
  have hiz : (i : Int) < (l.length : Int) := by omega
  have h0z : (0 : Int) ≤ (i : Int) := by omega
  have HM := Lib.hid (List.getElem_mem hi)
  have HD : RowKit.Hid (BrDeep l l[i] ↔ ∃ d, deep l l.length l[i] = some d ∧ d ≤ 12) := Iff.rfl
  generalize BrDeep l l[i] = PA at HD ⊢
  generalize hy : l[i] = y at c0 c1 c2 c3 c4 HD HM
  clear hy
  obtain ⟨yi, yp, yl, yt, ym, yk⟩ := y
  dsimp only at c0 c1 c2 c3 c4
  have HF : RowKit.Hid (∀ y ∈ l, y.parent ≠ 0 → ∃ p, brFind l y.parent = some p) := fun y hy hne => by
    obtain ⟨j, hj, rfl⟩ := List.mem_iff_getElem.1 hy
    have := hP j hj
    unfold BrPlaced at this
    rw [if_neg hne] at this
    obtain ⟨p, hp, _⟩ := this
    exact ⟨p, hp⟩
  clear hcell hcl hr hv hP
  go_enter Tryz.func98, Tryz.ntmps98
  go_wp2
  go_loopg [5, 6] (l.length + 1) (fun gg s5 s6 wr => ∃ (m C : Nat) (y : Br), s5 = .int .i64 (m + 1 : Nat) ∧ s6 = .pointer (some ⟨C, 0, none⟩) ∧ m ≤ l.length ∧ l.length + 1 - m ≤ gg ∧ w.heap.size + 1 ≤ C ∧ Aside (y ∈ l) ∧ Aside (HoldsU wr C y) ∧ Aside (Grew (w.alloc (.cells [rv, .slice (some ⟨b, off, none⟩) l.length c].toArray 51)) wr) ∧ Aside (deep l l.length ⟨yi, yp, yl, yt, ym, yk⟩ = (deep l (l.length - m) y).map (· + m)))
  case atStart => exact ⟨0, w.heap.size + 1, ⟨yi, yp, yl, yt, ym, yk⟩, rfl, rfl, by omega, by omega, by omega, (show Aside _ from HM.out), (show Aside _ from holdsU_new w _ ⟨yi, yp, yl, yt, ym, yk⟩), (show Aside _ from (Grew.refl _).alloc _), (show Aside _ from (show _ = _ by simp))⟩
  case round =>
    obtain ⟨m, C, y, rfl, rfl, hm, hgk, hC, HYM, HU, BW, HDP⟩ := hrel
    have GW : Aside (Grew w wr) := ((Grew.refl w).alloc _).trans BW.out
    have t1 := new_cell BW.out 1 _ rfl
    have t0 := new_cell BW.out 0 _ rfl
    obtain ⟨u0, u1, u2, u3, u4⟩ := HU.out.cells
    by_cases hp0 : y.parent = 0
    · have hdd : deep l l.length ⟨yi, yp, yl, yt, ym, yk⟩ = some (1 + m) := by rw [HDP.out, deep_zero _ _ _ hp0]; rfl
      have hpp : (y.parent != 0) = false := by simpa using hp0
      have HDD := Lib.hid hdd
      generalize y.parent = zp at u1 hpp
      clear hdd hp0 u0 u2 u3 u4
      by_cases h12 : 12 < m + 1
      · have h12z : (12 : Int) < ((m + 1 : Nat) : Int) := by omega
        have Hn : RowKit.Hid (¬ PA) := fun h => by
          obtain ⟨d, hd, hle⟩ := HD.out.1 h
          rw [HDD.out] at hd
          cases hd
          omega
        go_wp2
        go_ret
        exact RetIff.no 15 (by decide) Hn.out GW.out
      · have h12z : ¬ (12 : Int) < ((m + 1 : Nat) : Int) := by omega
        have Hy : RowKit.Hid PA := HD.out.2 ⟨1 + m, HDD.out, by omega⟩
        go_wp2
        go_ret
        exact RetIff.yes Hy.out GW.out
    have hpp : (y.parent != 0) = true := by simpa using hp0
    by_cases hcy : l.length < m + 1
    · have hcyz : (l.length : Int) < ((m + 1 : Nat) : Int) := by omega
      have Hn : RowKit.Hid (¬ PA) := fun h => by
        obtain ⟨d, hd, hle⟩ := HD.out.1 h
        rw [HDP.out, show l.length - m = 0 by omega, deep_cycle _ _ hp0] at hd
        cases hd
      generalize y.parent = zp at u1 hpp
      clear hp0 u0 u2 u3 u4
      go_wp2
      go_ret
      exact RetIff.no 17 (by decide) Hn.out GW.out
    have hcyz : ¬ (l.length : Int) < ((m + 1 : Nat) : Int) := by omega
    obtain ⟨p, hfp⟩ := HF.out y HYM.out hp0
    obtain ⟨k, hk, ek, e⟩ := brIdx_some hfp
    have hdn : deep l l.length ⟨yi, yp, yl, yt, ym, yk⟩ = (deep l (l.length - (m + 1)) p).map (· + (m + 1)) := by
      rw [HDP.out, show l.length - m = (l.length - (m + 1)) + 1 by omega, deep_up _ _ _ p hp0 hfp, Option.map_map]
      congr 1
      funext d
      simp
      omega
    have HDN := Lib.hid hdn
    have HPM := Lib.hid (show p ∈ l by rw [← e]; exact List.getElem_mem hk)
    have kI := fun W (hW : Grew w W) => tIndex l y.parent rv (.slice (some ⟨b, off, none⟩) l.length c) W (HV.out.mono hW)
    rw [ek] at kI
    have hq := HCELL.out k hk
    rw [e] at hq
    have HQ := Lib.hid hq
    have KI := Lib.hid kI
    have hkz : (k : Int) < (l.length : Int) := by omega
    have h0k : (0 : Int) ≤ (k : Int) := by omega
    have HUU := Lib.hid HU.out
    clear kI hq e ek hfp hdn hp0 HDP HU
    generalize hzp : y.parent = zp at u1 hpp KI
    clear hzp u0 u2 u3 u4
    obtain ⟨pi, pp, pl, pt, pm, pk⟩ := p
    dsimp only at HQ
    obtain ⟨_, -, hq⟩ := HQ.out
    obtain ⟨d0, d1, d2, d3, d4, -⟩ := hq wr GW.out
    have f0 := Gr.cell d0
    have f1 := Gr.cell d1
    have f2 := Gr.cell d2
    have f3 := Gr.cell d3
    have f4 := Gr.cell d4
    have r0 := Gr.cell t0
    have r1 := Gr.cell t1
    have v1 := Gr.cell u1
    clear hq HQ d0 d1 d2 d3 d4
    go_wp2
    refine region_gr_last wr _ rfl (by kernel_rfl) (by kernel_rfl) (by kernel_rfl) (Grew.refl _) ?_
    simp only [blankLast]
    repeat (first | go_big_quiet_step ((go_at_call 75; exact Gr.calls _ (KI.out _ (GW.out.trans (Gr.g _))))) | quiet_step ((go_at_call 75; exact Gr.calls _ (KI.out _ (GW.out.trans (Gr.g _))))))
    refine wpQuiet_nil ?_
    intro _ hw'
    obtain ⟨wi, rfl⟩ := hw'
    have HU1 := HUU.out.mono wi.g
    have HG1 := Lib.hid wi.g
    have hlt1 := HUU.out.lt
    have hlt2 := wi.g.size
    obtain ⟨s0, s1, s2, s3, s4⟩ := HU1.cells
    have z0 := HU1.free 0
    have z1 := HU1.free 1
    have z2 := HU1.free 2
    have z3 := HU1.free 3
    have z4 := HU1.free 4
    clear HU1 u1 t0 t1 f0 f1 f2 f3 f4 r0 r1 v1
    go_simp
    go_wp2
    go_roundg (l.length + 1 - (m + 1))
    case measure => omega
    case rel =>
      refine ⟨m + 1, wi.W.heap.size, ⟨pi, pp, pl, pt, pm, pk⟩, by go_num, rfl, by omega, by omega, by omega, (show Aside _ from HPM.out), ?_, ?_, (show Aside _ from HDN.out)⟩
      · show HoldsU _ _ _
        with_reducible refine holdsU_lastH _ _ ?_ ⟨pi, pp, pl, pt, pm, pk⟩
        simp
      · show Grew _ _
        with_reducible refine Grew.alloc ?_ _
        repeat (with_reducible refine Grew.setCell ?_ (by simpa using hC) _)
        exact BW.out.trans HG1.out
end Go.Proofs.YtfghbendiofbeaaGreatDoor
