/- Lemmas on what the functions of the program and of the library compute: T5, A5, T7, A6, A7, B2, B3, T10, PlainK. The conditions stand at each. -/
import Derived.Test.YtjaknioojpgkiaaGreatDoorQ3
import Derived.Test.YtjaknioojpgkiaaGreatDoorQ2
import Derived.Deep.RegionHeld3
/- tree: the check of the children, depth, walked. The condition: the lists are short; for depth: each unit is placed. -/
namespace Go.Proofs.YtjaknioojpgkiaaGreatDoor
open Go.RowKit

def FewBr (l : List Br) : Prop := l.length ≤ 1000000 ∧ ∀ i (h : i < l.length), l[i].kids.length ≤ 1000000
set_option maxHeartbeats 2000000 in
theorem tKids (l : List Br) (i : Nat) (hi : i < l.length) (rv bv : Value) (w : World) (hv : SlBr w bv l) (hf : FewBr l) :
    Calls Tryz.prog 184 #[.agg #[rv, bv], .int .i64 i] w (RetIff (sortI l[i].kids = kidsOf l l[i].id) w) := by
  have HV := Lib.hid hv
  obtain ⟨A, c, rfl, hlc, hc, hr⟩ := hv.open_
  unfold maxLen at hc
  obtain ⟨b, off, rfl, hbk, hcell⟩ := hr (by omega)
  obtain ⟨kv, hkv, hcl⟩ := hcell i hi
  obtain ⟨c0, c1, c2, c3, c4, c5⟩ := hcl w (Grew.refl w)
  have kJ := fun W (hW : Grew w W) => tJust l l[i].id l[i].kids rv (.slice (some ⟨b, off, none⟩) l.length c) kv W (HV.out.mono hW) (hkv.mono hW) hf.1 (hf.2 i hi)
  have hiz : (i : Int) < (l.length : Int) := by omega
  have h0z : (0 : Int) ≤ (i : Int) := by omega
  obtain ⟨Az, cz, rfl, -, -, -⟩ := hkv.open_
  by_cases hS : sortI l[i].kids = kidsOf l l[i].id
  · have HS := Lib.hid hS
    rw [decide_eq_true hS] at kJ
    clear hS hcell hcl hr hv hkv hf
    generalize (sortI l[i].kids = kidsOf l l[i].id) = PA at HS ⊢
    generalize l[i] = y at c0 c1 c2 c3 c4 c5 kJ
    obtain ⟨yi, yp, yl, yt, ym, yk⟩ := y
    dsimp only at c0 c1 c2 c3 c4 c5 kJ
    have KJ := Lib.hid kJ
    clear kJ
    go_enter Tryz.func184, Tryz.ntmps184
    go_wp2_with fail
    refine (KJ.out _ (((Grew.refl w).alloc _).alloc _)).mono ?_
    rintro e w1 ⟨rfl, g1⟩
    dsimp only
    go_wp2
    go_ret
    exact RetIff.yes HS.out ((((Grew.refl w).alloc _).alloc _).trans g1)
  · have HS := Lib.hid hS
    rw [decide_eq_false hS] at kJ
    clear hS hcell hcl hr hv hkv hf
    generalize (sortI l[i].kids = kidsOf l l[i].id) = PA at HS ⊢
    generalize l[i] = y at c0 c1 c2 c3 c4 c5 kJ
    obtain ⟨yi, yp, yl, yt, ym, yk⟩ := y
    dsimp only at c0 c1 c2 c3 c4 c5 kJ
    have KJ := Lib.hid kJ
    clear kJ
    go_enter Tryz.func184, Tryz.ntmps184
    go_wp2_with fail
    refine (KJ.out _ (((Grew.refl w).alloc _).alloc _)).mono ?_
    rintro e w1 ⟨rfl, g1⟩
    dsimp only
    go_wp2
    go_ret
    exact RetIff.no 10 (by decide) HS.out ((((Grew.refl w).alloc _).alloc _).trans g1)

/-- A block that holds a unit. -/
def HoldsU (W : World) (C : Nat) (y : Br) : Prop := W.heap[C]? = some (.cells #[.int .i64 y.id, .int .i64 y.parent, .int .i64 y.level, .string y.title, .string y.mark] 54)
theorem HoldsU.cells {W : World} {C : Nat} {y : Br} (h : HoldsU W C y) : W.cell? ⟨C, 0, none⟩ = some (.int .i64 y.id) ∧ W.cell? ⟨C, 1, none⟩ = some (.int .i64 y.parent) ∧ W.cell? ⟨C, 2, none⟩ = some (.int .i64 y.level) ∧ W.cell? ⟨C, 3, none⟩ = some (.string y.title) ∧ W.cell? ⟨C, 4, none⟩ = some (.string y.mark) := by
  refine ⟨?_, ?_, ?_, ?_, ?_⟩ <;> rw [cell_of_row _ _ _ _ _ _ h] <;> simp
theorem HoldsU.free {W : World} {C : Nat} {y : Br} (h : HoldsU W C y) (j : Nat) : W.frozen? ⟨C, j, none⟩ = false := by
  unfold HoldsU at h
  simp [World.frozen?, h]
theorem HoldsU.mono {W W' : World} {C : Nat} {y : Br} (h : HoldsU W C y) (hg : Grew W W') : HoldsU W' C y := by
  have hlt : C < W.heap.size := by
    rcases Nat.lt_or_ge C W.heap.size with hlt | hge
    · exact hlt
    · unfold HoldsU at h; rw [Array.getElem?_eq_none hge] at h; cases h
  exact (hg.block C hlt).trans h
theorem holdsU_new (w : World) (o : Obj) (y : Br) : HoldsU ((w.alloc o).alloc (.cells #[.int .i64 y.id, .int .i64 y.parent, .int .i64 y.level, .string y.title, .string y.mark] 54)) (w.heap.size + 1) y := by
  have := heap_alloc_new (w.alloc o) (.cells #[.int .i64 y.id, .int .i64 y.parent, .int .i64 y.level, .string y.title, .string y.mark] 54)
  unfold HoldsU
  simpa using this
theorem holdsU_last (w : World) (y : Br) : HoldsU (w.alloc (.cells #[.int .i64 y.id, .int .i64 y.parent, .int .i64 y.level, .string y.title, .string y.mark] 54)) w.heap.size y := heap_alloc_new w _
theorem holdsU_lastH (w : World) (H : Nat) (h : w.heap.size = H) (y : Br) : HoldsU (w.alloc (.cells #[.int .i64 y.id, .int .i64 y.parent, .int .i64 y.level, .string y.title, .string y.mark] 54)) H y := by
  subst h
  exact holdsU_last w y
theorem HoldsU.lt {W : World} {C : Nat} {y : Br} (h : HoldsU W C y) : C < W.heap.size := by
  rcases Nat.lt_or_ge C W.heap.size with hlt | hge
  · exact hlt
  · unfold HoldsU at h; rw [Array.getElem?_eq_none hge] at h; cases h
theorem deep_zero (l : List Br) (n : Nat) (b : Br) (h : b.parent = 0) : deep l n b = some 1 := by cases n <;> simp [deep, h]
theorem deep_up (l : List Br) (n : Nat) (b p : Br) (h : b.parent ≠ 0) (hp : brFind l b.parent = some p) : deep l (n + 1) b = (deep l n p).map (· + 1) := by simp [deep, h, hp]
theorem deep_cycle (l : List Br) (b : Br) (h : b.parent ≠ 0) : deep l 0 b = none := by simp [deep, h]
end Go.Proofs.YtjaknioojpgkiaaGreatDoor

/- authority: successors, Check, walked. The condition: the library's own variables hold what they must. -/
namespace Go.Proofs.YtjaknioojpgkiaaGreatDoor
open Go.RowKit

/-- A call that answers with two numbers, the second of which is 0 just if P holds. -/
def RetIff2 (P : Prop) (w : World) (e : Ending) (w' : World) : Prop := ∃ i n : Int, e = .returned (.tuple #[.int .i64 i, .int .i64 n]) ∧ (n = 0 ↔ P) ∧ Grew w w'
theorem RetIff2.no {P : Prop} {w w' : World} (i n : Int) (hn : n ≠ 0) (h : ¬ P) (hg : Grew w w') : RetIff2 P w (.returned (.tuple #[.int .i64 i, .int .i64 n])) w' := ⟨i, n, rfl, ⟨fun e => absurd e hn, fun e => absurd e h⟩, hg⟩
theorem RetIff2.yes {P : Prop} {w w' : World} (i : Int) (h : P) (hg : Grew w w') : RetIff2 P w (.returned (.tuple #[.int .i64 i, .int .i64 0])) w' := ⟨i, 0, rfl, ⟨fun _ => h, fun _ => rfl⟩, hg⟩
end Go.Proofs.YtjaknioojpgkiaaGreatDoor

/- tree: right, Find, walked. The conditions: the library's own variables hold what they must; the lists are short. -/
namespace Go.Proofs.YtjaknioojpgkiaaGreatDoor
open Go.RowKit

/-- A call that answers whether P holds. -/
def RetB (P : Prop) (w : World) (e : Ending) (w' : World) : Prop := ∃ b : Bool, e = .returned (.bool b) ∧ (b = true ↔ P) ∧ Grew w w'
def br0 : Br := ⟨0, 0, 0, ⟨#[]⟩, ⟨#[]⟩, []⟩
/-- How Find of a tree ends. -/
def TFindEnd (o : Option Br) (w : World) (e : Ending) (w' : World) : Prop :=
  e = .returned (.tuple #[.agg #[.int .i64 (o.getD br0).id, .int .i64 (o.getD br0).parent, .int .i64 (o.getD br0).level, .string (o.getD br0).title, .string (o.getD br0).mark], .bool o.isSome]) ∧ Grew w w'
set_option maxHeartbeats 2000000 in
theorem tFind (l : List Br) (id : Int) (rv bv : Value) (w : World) (hv : SlBr w bv l) : Calls Tryz.prog 84 #[.agg #[rv, bv], .int .i64 id] w (TFindEnd (brFind l id) w) := by
  have HV := Lib.hid hv
  have kI := fun W (hW : Grew w W) => tIndex l id rv bv W (HV.out.mono hW)
  cases ho : brFind l id with
  | none =>
    rw [brIdx_none ho] at kI
    have KI := Lib.hid kI
    clear kI ho hv
    go_enter Tryz.func84, Tryz.ntmps84
    go_wp2_with fail
    refine (KI.out _ (((Grew.refl w).alloc _).alloc _)).mono ?_
    rintro e w1 ⟨rfl, g1⟩
    have hz1 : w.heap.size + 1 < w1.heap.size := Nat.lt_of_lt_of_le (by simp) g1.size
    obtain ⟨hc1, hf1⟩ := g1.cells
    have HG1 := Lib.hid g1
    clear g1
    dsimp only
    go_wp2
    refine bodyPost_ret (v := .tuple #[.agg #[.int .i64 0, .int .i64 0, .int .i64 0, .string ⟨#[]⟩, .string ⟨#[]⟩], .bool false]) (by simp [results, Tryz.results84, go_sem, hc1]) rfl ⟨rfl, ?_⟩
    repeat (with_reducible refine Grew.setCell ?_ (by simp) _)
    exact (((Grew.refl w).alloc _).alloc _).trans HG1.out
  | some p =>
    obtain ⟨k, hk, ek, rfl⟩ := brIdx_some ho
    rw [ek] at kI
    obtain ⟨A, c, rfl, hlc, hc, hr⟩ := hv.open_
    unfold maxLen at hc
    obtain ⟨bb, off, rfl, hbk, hcell⟩ := hr (by omega)
    obtain ⟨kv, -, hcl⟩ := hcell k hk
    have KI := Lib.hid kI
    have HCL := Lib.hid hcl
    have hkz : (k : Int) < (l.length : Int) := by omega
    have h0z : (0 : Int) ≤ (k : Int) := by omega
    have hneg : ¬ (k : Int) < 0 := by omega
    generalize l[k] = y at HCL
    obtain ⟨yi, yp, yl, yt, ym, yk⟩ := y
    dsimp only at HCL
    clear kI ho hv ek hcell hcl hr
    go_enter Tryz.func84, Tryz.ntmps84
    go_wp2_with fail
    refine (KI.out _ (((Grew.refl w).alloc _).alloc _)).mono ?_
    rintro e w1 ⟨rfl, g1⟩
    have hz1 : w.heap.size + 1 < w1.heap.size := Nat.lt_of_lt_of_le (by simp) g1.size
    have hy1 : w.heap.size < w1.heap.size := by omega
    have HW1 := Lib.hid ((((Grew.refl w).alloc _).alloc _).trans g1)
    obtain ⟨c0, c1, c2, c3, c4, -⟩ := HCL.out w1 HW1.out
    obtain ⟨hc1, hf1⟩ := g1.cells
    clear g1
    dsimp only
    go_wp2
    refine bodyPost_ret (v := .tuple #[.agg #[.int .i64 yi, .int .i64 yp, .int .i64 yl, .string yt, .string ym], .bool true]) (by simp [results, Tryz.results84, go_sem, hc1]) rfl ⟨rfl, ?_⟩
    repeat (with_reducible refine Grew.setCell ?_ (by simp) _)
    exact HW1.out
end Go.Proofs.YtjaknioojpgkiaaGreatDoor

/- authority: clone, own, Find, walked. No condition but the sizes that a slice can have. -/
namespace Go.Proofs.YtjaknioojpgkiaaGreatDoor
open Go.RowKit

theorem own_slice {w : World} {base : Nat} {e : TypeId} {k : Nat} {v : Value} {n : Nat} {xs : List Value} (h : w.ownsRow base e k v n xs) : ∃ A c, v = .slice A n c := by
  rcases h.2 with ⟨rfl, rfl⟩ | ⟨g, cap, cur, rfl, _⟩
  · exact ⟨_, _, rfl⟩
  · exact ⟨_, _, rfl⟩
end Go.Proofs.YtjaknioojpgkiaaGreatDoor

/- authority.Find, walked. The condition: each authority has few names and successors. -/
namespace Go.Proofs.YtjaknioojpgkiaaGreatDoor
open Go.RowKit

def FewAu (l : List Auth) : Prop := ∀ i (h : i < l.length), l[i].names.length ≤ 1000000 ∧ l[i].next.length ≤ 1000000
end Go.Proofs.YtjaknioojpgkiaaGreatDoor

/- relation.Check, walked. The conditions: the library's own variables hold what they must; each authority has few names and successors. -/
namespace Go.Proofs.YtjaknioojpgkiaaGreatDoor
open Go.RowKit

theorem keep_cell {W X : World} (g : Grew W X) {p : Addr} {v : Value} (h : W.cell? p = some v) : X.cell? p = some v := (g.cell (World.block_lt_of_cell? W _ h)).trans h
end Go.Proofs.YtjaknioojpgkiaaGreatDoor

/- relation: asks, ranged, find, walked. The conditions: the library's own variables hold what they must; the lists are short. -/
namespace Go.Proofs.YtjaknioojpgkiaaGreatDoor
open Go.RowKit

theorem ret_ib {i : Int} {a b : Bool} (h : a = b) : Ending.returned (.tuple #[.int .i64 i, .bool a]) = .returned (.tuple #[.int .i64 i, .bool b]) := by rw [h]
/-- Where a sorted list passes a thing. -/
def passes {α : Type} (p : α → Bool) (l : List α) : Nat := (l.takeWhile p).length
theorem passes_eq {α : Type} (p : α → Bool) (l : List α) (i : Nat) (hi : i ≤ l.length) (h1 : ∀ t (h : t < l.length), t < i → p l[t] = true) (h2 : ∀ t (h : t < l.length), i ≤ t → p l[t] = false) : passes p l = i := by
  unfold passes
  induction l generalizing i with
  | nil => simp at hi; simp [hi]
  | cons x r ih =>
    cases i with
    | zero =>
      have := h2 0 (by simp) (by omega)
      simp only [List.getElem_cons_zero] at this
      simp [this]
    | succ i =>
      have := h1 0 (by simp) (by omega)
      simp only [List.getElem_cons_zero] at this
      rw [List.takeWhile_cons, if_pos this, List.length_cons, ih i (by simpa using hi) (fun t h ht => h1 (t + 1) (Nat.succ_lt_succ h) (by omega)) (fun t h ht => h2 (t + 1) (Nat.succ_lt_succ h) (by omega))]
/-- Whether the place is that of the thing itself. -/
def hitB {α : Type} (q : α → Bool) (l : List α) (i : Nat) : Bool := match l[i]? with
  | none => false
  | some y => q y
end Go.Proofs.YtjaknioojpgkiaaGreatDoor

/- tree.path on a right tree: its plain form. No condition. -/
namespace Go.Proofs.YtjaknioojpgkiaaGreatDoor
open Go.RowKit

/-- The units on the way from one to the top. -/
def upIds (l : List Br) : Nat → Br → List Int
  | 0, b => [b.id]
  | n + 1, b => if b.parent = 0 then [b.id] else match brFind l b.parent with
    | none => [b.id]
    | some p => b.id :: upIds l n p
/-- The path of a unit, from the top. -/
def pathF (l : List Br) (b : Br) : List Int := (upIds l l.length b).reverse
theorem upIds_top (l : List Br) (n : Nat) (b : Br) (h : b.parent = 0) : upIds l n b = [b.id] := by cases n <;> simp [upIds, h]
theorem upIds_up (l : List Br) (n : Nat) (b p : Br) (h : b.parent ≠ 0) (hp : brFind l b.parent = some p) : upIds l (n + 1) b = b.id :: upIds l n p := by simp [upIds, h, hp]
open Go.Sort in
theorem grew_putI {w0 w1 : World} {blk off : Nat} (hb : w0.heap.size ≤ blk) (hg : Grew w0 w1) (d : Array Int) (n : Nat) : Grew w0 (putRow (Value.int .i64) (Sort.ahead w1 n) blk off d) := by
  have := grew_sortedI (off := off) hb hg d n #[]
  rwa [grow_empty] at this
end Go.Proofs.YtjaknioojpgkiaaGreatDoor

/- The children of a unit as the reference asks for them, plainly: the same as the sorted list. No condition. -/
namespace Go.Proofs.YtjaknioojpgkiaaGreatDoor
open Go.RowKit

/-- What the reference asks of a list of children. -/
def KidsOk (l : List Br) (ks : List Int) (p : Int) : Prop := (∀ i (h : i < ks.length), (∃ b, brFind l ks[i] = some b ∧ b.parent = p) ∧ ∀ j (hj : j < ks.length), j < i → ks[j] ≠ ks[i]) ∧ (kidsOf l p).length = ks.length
theorem asc_sub_len : ∀ {a b : List Int}, Asc a → Asc b → (∀ x ∈ a, x ∈ b) → a.length ≤ b.length
  | [], _, _, _, _ => Nat.zero_le _
  | x :: a, [], _, _, h => by have := h x (by simp); cases this
  | x :: a, y :: b, ha, hb, h => by
    have ha' := List.pairwise_cons.1 ha
    have hb' := List.pairwise_cons.1 hb
    have hxy : y ≤ x := by
      rcases List.mem_cons.1 (h x (by simp)) with e | hx
      · omega
      · have := hb'.1 x hx; omega
    have := asc_sub_len (a := a) (b := b) ha'.2 hb'.2 (fun z hz => by
      have h1 := ha'.1 z hz
      rcases List.mem_cons.1 (h z (List.mem_cons_of_mem _ hz)) with e | hz2
      · omega
      · exact hz2)
    simp only [List.length_cons]
    omega
theorem asc_sub_eq {a b : List Int} (ha : Asc a) (hb : Asc b) (h : ∀ x ∈ a, x ∈ b) (hl : b.length ≤ a.length) : a = b := by
  refine asc_ext ha hb (fun x => ⟨h x, fun hx => ?_⟩)
  by_cases hxa : x ∈ a
  · exact hxa
  · exfalso
    have h1 := asc_sub_len (a := insU x a) (asc_insU x a ha) hb (fun z hz => by
      rcases (mem_insU x z a).1 hz with rfl | hz
      · exact hx
      · exact h z hz)
    have h2 : ∀ (m : List Int), x ∉ m → (insU x m).length = m.length + 1 := by
      intro m
      induction m with
      | nil => intro _; rfl
      | cons y r ih =>
        intro hm
        rw [List.mem_cons, not_or] at hm
        unfold insU
        split
        · simp only [List.length_cons]; rw [ih hm.2]
        · rw [if_neg (fun e => hm.1 e.symm)]; rfl
    rw [h2 a hxa] at h1
    omega
def idsAsc (l : List Br) : Prop := l.Pairwise fun a b => a.id < b.id
theorem find_byid {l : List Br} (h : idsAsc l) {b : Br} (hb : b ∈ l) : brFind l b.id = some b := by
  obtain ⟨k, hk, rfl⟩ := List.mem_iff_getElem.1 hb
  unfold brFind
  refine List.find?_eq_some_iff_getElem.2 ⟨by simp, k, hk, rfl, fun j hj => ?_⟩
  have := List.pairwise_iff_getElem.1 h j k (by omega) hk hj
  simp
  omega
theorem find_in {l : List Br} {n : Int} {b : Br} (h : brFind l n = some b) : b ∈ l ∧ b.id = n := by
  unfold brFind at h
  exact ⟨List.mem_of_find?_eq_some h, by simpa using List.find?_some h⟩
theorem kidsOf_asc {l : List Br} (h : idsAsc l) (p : Int) : Asc (kidsOf l p) := by
  unfold kidsOf Asc
  exact List.Pairwise.map _ (fun _ _ h => h) (List.Pairwise.filter _ h)
theorem mem_kidsOf (l : List Br) (p n : Int) : n ∈ kidsOf l p ↔ ∃ b ∈ l, b.parent = p ∧ b.id = n := by
  unfold kidsOf
  simp only [List.mem_map, List.mem_filter, beq_iff_eq]
  exact ⟨fun ⟨b, ⟨h1, h2⟩, h3⟩ => ⟨b, h1, h2, h3⟩, fun ⟨b, h1, h2, h3⟩ => ⟨b, ⟨h1, h2⟩, h3⟩⟩
theorem kids_ok {l : List Br} (h : idsAsc l) (ks : List Int) (p : Int) : KidsOk l ks p ↔ sortI ks = kidsOf l p := by
  have hnd : (∀ i (h : i < ks.length), ∀ j (hj : j < ks.length), j < i → ks[j] ≠ ks[i]) ↔ ks.Nodup := by
    unfold List.Nodup
    rw [List.pairwise_iff_getElem]
    exact ⟨fun h i j hi hj hij => h j hj i hi hij, fun h i hi j hj hij => h j i hj hi hij⟩
  have hlen : (sortI ks).length = ks.length := by unfold sortI; exact List.length_mergeSort ks
  constructor
  · rintro ⟨h1, h2⟩
    have hn := hnd.1 (fun i hi => (h1 i hi).2)
    refine asc_sub_eq (sortI_asc ks hn) (kidsOf_asc h p) (fun x hx => ?_) (by omega)
    rw [mem_sortI] at hx
    obtain ⟨i, hi, rfl⟩ := List.mem_iff_getElem.1 hx
    obtain ⟨b, hb, hp⟩ := (h1 i hi).1
    have := find_in hb
    exact (mem_kidsOf l p _).2 ⟨b, this.1, hp, this.2⟩
  · intro he
    have hn : ks.Nodup := by
      have h1 : (sortI ks).Nodup := by
        rw [he]
        exact List.Pairwise.imp (fun h => by omega) (kidsOf_asc h p)
      exact (List.mergeSort_perm ks _).nodup_iff.1 h1
    refine ⟨fun i hi => ⟨?_, hnd.2 hn i hi⟩, by rw [← he, hlen]⟩
    have hm : ks[i] ∈ kidsOf l p := by rw [← he, mem_sortI]; exact List.getElem_mem hi
    obtain ⟨b, hb, hp, hid⟩ := (mem_kidsOf l p _).1 hm
    exact ⟨b, by rw [← hid]; exact find_byid h hb, hp⟩
/-- How deep a unit stands, with as many steps as there are units: never deeper than that. -/
theorem deep_mono {l : List Br} : ∀ (n : Nat) (b : Br) (d : Nat), deep l n b = some d → d ≤ n + 1 ∧ ∀ m, d ≤ m + 1 → deep l m b = some d
  | 0, b, d, h => by
    unfold deep at h
    by_cases hp : b.parent = 0
    · rw [if_pos hp] at h
      cases h
      refine ⟨by omega, fun m _ => ?_⟩
      cases m <;> simp [deep, hp]
    · rw [if_neg hp] at h; cases h
  | n + 1, b, d, h => by
    unfold deep at h
    by_cases hp : b.parent = 0
    · rw [if_pos hp] at h
      cases h
      refine ⟨by omega, fun m _ => ?_⟩
      cases m <;> simp [deep, hp]
    · rw [if_neg hp] at h
      cases hf : brFind l b.parent with
      | none => rw [hf] at h; cases h
      | some p =>
        rw [hf] at h
        simp only [Option.map_eq_some_iff] at h
        obtain ⟨e, he, rfl⟩ := h
        obtain ⟨h1, h2⟩ := deep_mono n p e he
        refine ⟨by omega, fun m hm => ?_⟩
        obtain ⟨m', rfl⟩ : ∃ m', m = m' + 1 := by
          cases m with
          | zero =>
            exfalso
            have : 1 ≤ e := by
              cases n with
              | zero => unfold deep at he; split at he <;> simp at he; omega
              | succ n => unfold deep at he; split at he
                          · simp at he; omega
                          · cases hf2 : brFind l p.parent with
                            | none => rw [hf2] at he; cases he
                            | some q => rw [hf2] at he; simp only [Option.map_eq_some_iff] at he; obtain ⟨_, _, rfl⟩ := he; omega
            omega
          | succ m' => exact ⟨m', rfl⟩
        unfold deep
        rw [if_neg hp, hf]
        show (deep l m' p).map (· + 1) = _
        rw [h2 m' (by omega)]
        rfl
/-- The way up as the reference goes it: nothing where it does not end within so many units. -/
def upW (l : List Br) : Nat → Br → Option (List Int)
  | 0, _ => none
  | n + 1, b => if b.parent = 0 then some [b.id] else match brFind l b.parent with
    | none => some [b.id]
    | some p => (upW l n p).map (b.id :: ·)
def pathW (l : List Br) (b : Br) : List Int := match upW l l.length b with
  | none => []
  | some ids => ids.reverse
/-- Every unit stands below one that is there. -/
def upOk (l : List Br) : Prop := ∀ b ∈ l, b.parent = 0 ∨ ∃ p, brFind l b.parent = some p
theorem upW_deep {l : List Br} (hu : upOk l) : ∀ (n : Nat) (b : Br), b ∈ l → upW l (n + 1) b = (deep l n b).map fun _ => upIds l n b
  | 0, b, hb => by
    unfold upW deep
    by_cases hp : b.parent = 0
    · simp [hp, upIds]
    · rw [if_neg hp, if_neg hp]
      rcases hu b hb with h | ⟨p, h⟩
      · exact absurd h hp
      · rw [h]
        simp [upW]
  | n + 1, b, hb => by
    unfold upW deep
    by_cases hp : b.parent = 0
    · simp [hp, upIds]
    · rw [if_neg hp, if_neg hp]
      rcases hu b hb with h | ⟨p, h⟩
      · exact absurd h hp
      · rw [h]
        show (upW l (n + 1) p).map (b.id :: ·) = ((deep l n p).map (· + 1)).map fun _ => upIds l (n + 1) b
        rw [upW_deep hu n p (find_in h).1, upIds_up l n b p hp h]
        cases deep l n p <;> rfl
theorem up_deep_len {l : List Br} : ∀ (n : Nat) (b : Br) (d : Nat), deep l n b = some d → (upIds l n b).length = d
  | 0, b, d, h => by
    unfold deep at h
    by_cases hp : b.parent = 0
    · rw [if_pos hp] at h; cases h; simp [upIds]
    · rw [if_neg hp] at h; cases h
  | n + 1, b, d, h => by
    unfold deep at h
    by_cases hp : b.parent = 0
    · rw [if_pos hp] at h; cases h; simp [upIds, hp]
    · rw [if_neg hp] at h
      cases hf : brFind l b.parent with
      | none => rw [hf] at h; cases h
      | some p =>
        rw [hf] at h
        simp only [Option.map_eq_some_iff] at h
        obtain ⟨e, he, rfl⟩ := h
        rw [upIds_up l n b p hp hf, List.length_cons, up_deep_len n p e he]
theorem up_below {l : List Br} (hi : idsAsc l) : ∀ (n : Nat) (b : Br) (d : Nat), b ∈ l → deep l n b = some d → (upIds l n b).Nodup ∧ ∀ x ∈ upIds l n b, ∃ c ∈ l, c.id = x ∧ ∃ e, e ≤ d ∧ deep l n c = some e
  | 0, b, d, hb, h => by
    refine ⟨by simp [upIds], fun x hx => ?_⟩
    simp only [upIds, List.mem_singleton] at hx
    exact ⟨b, hb, hx.symm, d, Nat.le_refl _, h⟩
  | n + 1, b, d, hb, h => by
    have h0 := h
    unfold deep at h
    by_cases hp : b.parent = 0
    · rw [upIds_top l _ b hp]
      refine ⟨by simp, fun x hx => ?_⟩
      rw [List.mem_singleton] at hx
      exact ⟨b, hb, hx.symm, d, Nat.le_refl _, h0⟩
    · rw [if_neg hp] at h
      cases hf : brFind l b.parent with
      | none => rw [hf] at h; cases h
      | some p =>
        rw [hf] at h
        simp only [Option.map_eq_some_iff] at h
        obtain ⟨e, he, rfl⟩ := h
        obtain ⟨h1, h2⟩ := up_below hi n p e (find_in hf).1 he
        rw [upIds_up l n b p hp hf]
        refine ⟨List.nodup_cons.2 ⟨fun hx => ?_, h1⟩, fun x hx => ?_⟩
        · obtain ⟨c, hc, hci, e', hle, hd⟩ := h2 _ hx
          have hcb : c = b := by
            have a1 := find_byid hi hc
            have a2 := find_byid hi hb
            rw [hci, a2] at a1
            exact (Option.some.inj a1).symm
          subst hcb
          have h3 := (deep_mono n c e' hd).2 (n + 1) (by have := (deep_mono n c e' hd).1; omega)
          rw [h3] at h0
          have := Option.some.inj h0
          omega
        · rcases List.mem_cons.1 hx with rfl | hx
          · exact ⟨b, hb, rfl, e + 1, Nat.le_refl _, h0⟩
          · obtain ⟨c, hc, hci, e', hle, hd⟩ := h2 _ hx
            have h3 := (deep_mono n c e' hd).2 (n + 1) (by have := (deep_mono n c e' hd).1; omega)
            exact ⟨c, hc, hci, e', by omega, h3⟩
theorem deep_le {l : List Br} (hi : idsAsc l) {n : Nat} {b : Br} {d : Nat} (hb : b ∈ l) (h : deep l n b = some d) : d ≤ l.length := by
  obtain ⟨h1, h2⟩ := up_below hi n b d hb h
  have hl := up_deep_len n b d h
  have hm : (sortI (upIds l n b)).length = (upIds l n b).length := by unfold sortI; exact List.length_mergeSort _
  have hs := asc_sub_len (a := sortI (upIds l n b)) (b := l.map Br.id) (sortI_asc _ h1) (List.Pairwise.map _ (fun _ _ h => h) hi) (fun x hx => by
    rw [mem_sortI] at hx
    obtain ⟨c, hc, hci, _⟩ := h2 x hx
    exact List.mem_map.2 ⟨c, hc, hci⟩)
  rw [List.length_map] at hs
  omega
/-- The reference's path of a unit, and how deep it stands. -/
theorem path_deep {l : List Br} (hi : idsAsc l) (hu : upOk l) {b : Br} (hb : b ∈ l) : (BrDeep l b ↔ (pathW l b).length ≠ 0 ∧ (pathW l b).length ≤ 12) ∧ (BrDeep l b → pathW l b = pathF l b) := by
  have hL : 0 < l.length := List.length_pos_of_mem hb
  obtain ⟨L, hLe⟩ : ∃ L, l.length = L + 1 := ⟨l.length - 1, by omega⟩
  have hW : pathW l b = match (deep l L b).map fun _ => upIds l L b with
      | none => []
      | some ids => ids.reverse := by
    unfold pathW
    rw [hLe, upW_deep hu L b hb]
  have hdd : ∀ d, deep l l.length b = some d → deep l L b = some d := fun d h => (deep_mono _ b d h).2 L (by have := deep_le hi hb h; omega)
  have hup : ∀ d, deep l L b = some d → deep l l.length b = some d := fun d h => (deep_mono _ b d h).2 _ (by have := (deep_mono _ b d h).1; omega)
  have hne : ∀ (n d : Nat), deep l n b = some d → d ≠ 0 := fun n d h e => by
    have h1 := up_deep_len n b d h
    cases n <;> unfold upIds at h1
    · simp at h1; omega
    · split at h1
      · simp at h1; omega
      · split at h1 <;> simp at h1 <;> omega
  constructor
  · unfold BrDeep
    rw [hW]
    constructor
    · rintro ⟨d, hd, h12⟩
      have h1 := hdd d hd
      rw [h1]
      have h2 := up_deep_len L b d h1
      have h3 := hne _ _ h1
      simp only [Option.map_some, List.length_reverse, h2]
      exact ⟨h3, h12⟩
    · rintro ⟨h0, h12⟩
      cases hd : deep l L b with
      | none => rw [hd] at h0; simp at h0
      | some d =>
        rw [hd] at h12
        simp only [Option.map_some, List.length_reverse, up_deep_len L b d hd] at h12
        exact ⟨d, hup d hd, h12⟩
  · rintro ⟨d, hd, -⟩
    have h1 := hdd d hd
    rw [hW, h1]
    show (upIds l L b).reverse = (upIds l l.length b).reverse
    congr 1
    have key : ∀ (n m : Nat) (c : Br) (e : Nat), deep l n c = some e → e ≤ m + 1 → upIds l n c = upIds l m c := by
      intro n
      induction n with
      | zero =>
        intro m c e he _
        unfold deep at he
        by_cases hp : c.parent = 0
        · rw [upIds_top l 0 c hp, upIds_top l m c hp]
        · rw [if_neg hp] at he; cases he
      | succ n ih =>
        intro m c e he hm
        by_cases hp : c.parent = 0
        · rw [upIds_top l _ c hp, upIds_top l m c hp]
        · unfold deep at he
          rw [if_neg hp] at he
          cases hf : brFind l c.parent with
          | none => rw [hf] at he; cases he
          | some p =>
            rw [hf] at he
            simp only [Option.map_eq_some_iff] at he
            obtain ⟨e', he', rfl⟩ := he
            have hpos : e' ≠ 0 := fun h => by
              have h1 := up_deep_len n p e' he'
              cases n <;> unfold upIds at h1
              · simp at h1; omega
              · split at h1
                · simp at h1; omega
                · split at h1 <;> simp at h1 <;> omega
            obtain ⟨m', rfl⟩ : ∃ m', m = m' + 1 := ⟨m - 1, by omega⟩
            rw [upIds_up l n c p hp hf, upIds_up l m' c p hp hf, ih m' p e' he' (by omega)]
    exact key L l.length b d h1 (by have := (deep_mono _ b d h1).1; omega)
end Go.Proofs.YtjaknioojpgkiaaGreatDoor
