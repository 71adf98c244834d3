/- Lemmas on what the functions of the program and of the library compute: PlainO, PlainP, PlainMv, PlainBl, E1, Idx, E2, PlainA, E3. The conditions stand at each. -/
import Derived.Test.YtjaknioojpgkiaaGreatDoorQ5
import Derived.Test.YtjaknioojpgkiaaGreatDoorQ6
import Derived.Test.YtjaknioojpgkiaaGreatDoorProg
import Derived.Test.YtjaknioojpgkiaaGreatDoorQ1
import Derived.Lib.SlTrimSet
import Derived.Test.YtjaknioojpgkiaaGreatDoorQ2
/- A tree that is right but for its depth: by its list, and by membership. No condition. -/
namespace Go.Proofs.YtjaknioojpgkiaaGreatDoor
open Go.RowKit

theorem all_mem {l : List Br} {P : Br → Prop} : (∀ i (h : i < l.length), P l[i]) ↔ ∀ b ∈ l, P b := by
  constructor
  · intro h b hb
    obtain ⟨k, hk, rfl⟩ := List.mem_iff_getElem.1 hb
    exact h k hk
  · exact fun h i hi => h _ (List.getElem_mem hi)
theorem sound_iff (t : Tr) : SoundT t ↔ SoundM t := by
  constructor
  · rintro ⟨h0, h1, h2, h3, h4, h5⟩
    obtain ⟨ha, hu, hm⟩ := (alone_iff t.brs).1 h1
    have hp := (all_mem (P := BrPlaced t.brs)).1 h2
    refine ⟨h0, ha, hu, hm, hp, fun b hb => (kidsAre_iff ha _ _).2 ((all_mem (P := fun b => sortI b.kids = kidsOf t.brs b.id)).1 h3 b hb), (kidsAre_iff ha _ _).2 h4, rank_of_deep ha (placed_upM hp) ((all_mem (P := fun b => (deep t.brs t.brs.length b).isSome = true)).1 h5)⟩
  · rintro ⟨h0, ha, hu, hm, hp, hk, hr, r, hrk⟩
    refine ⟨h0, (alone_iff t.brs).2 ⟨ha, hu, hm⟩, (all_mem (P := BrPlaced t.brs)).2 hp, (all_mem (P := fun b => sortI b.kids = kidsOf t.brs b.id)).2 fun b hb => (kidsAre_iff ha _ _).1 (hk b hb), (kidsAre_iff ha _ _).1 hr, (all_mem (P := fun b => (deep t.brs t.brs.length b).isSome = true)).2 fun b hb => deep_full ha hb (deep_of_rank (placed_upM hp) r hrk (r b.id) b hb (Nat.le_refl _))⟩
theorem right_sound {t : Tr} (h : RightT t) : SoundM t := by
  refine (sound_iff t).1 ⟨h.1, h.2.1, h.2.2.1, h.2.2.2.1, h.2.2.2.2.1, fun i hi => ?_⟩
  obtain ⟨d, hd, -⟩ := h.2.2.2.2.2 i hi
  rw [hd]
  rfl
/-- The children of a unit, and those at the top for 0. -/
def childs (t : Tr) (p : Int) : List Int := if p = 0 then t.roots else match brFind t.brs p with
  | none => []
  | some b => b.kids
end Go.Proofs.YtjaknioojpgkiaaGreatDoor

/- A tree that is right but for its depth: its units and its lists of children apart; other children leave the units as they are. No condition. -/
namespace Go.Proofs.YtjaknioojpgkiaaGreatDoor
open Go.RowKit

/-- What is asked of the units, whatever their children. -/
structure CoreM (l : List Br) : Prop where
  len : l.length ≤ 256
  asc : idsAsc l
  units : ∀ b ∈ l, UnitOk b
  marks : ∀ b ∈ l, ∀ c ∈ l, b.mark.toList.isEmpty = false → b.mark.toList = c.mark.toList → b.id = c.id
  placed : ∀ b ∈ l, BrPlaced l b
  rank : ∃ r : Int → Nat, ∀ b ∈ l, b.parent ≠ 0 → r b.parent < r b.id
theorem find_none {l : List Br} (n : Int) : brFind l n = none ↔ ∀ b ∈ l, b.id ≠ n := by
  unfold brFind
  rw [List.find?_eq_none]
  simp
theorem fits_one {p c : Int} (h : fitsF p c = true) : c ≠ 1 := by
  unfold fitsF within at h
  simp at h
  omega
/-- How a unit stands below its parent, by membership. -/
theorem placed_mem {l : List Br} (h : idsAsc l) (b : Br) : BrPlaced l b ↔ (b.parent = 0 ∧ b.level = 1) ∨ (b.parent ≠ 0 ∧ ∃ p ∈ l, p.id = b.parent ∧ fitsF p.level b.level = true) := by
  unfold BrPlaced
  by_cases hp : b.parent = 0
  · simp [hp]
  · rw [if_neg hp]
    constructor
    · rintro ⟨p, hf, h1, h2⟩
      have := find_in hf
      exact .inr ⟨hp, p, this.1, this.2, h2⟩
    · rintro (⟨h0, _⟩ | ⟨_, p, hm, hi, hf⟩)
      · exact absurd h0 hp
      · exact ⟨p, by rw [← hi]; exact find_byid h hm, fits_one hf, hf⟩
/-- All lists of children are just what they must be. -/
def KidsAll (t : Tr) : Prop := ∀ p, (p = 0 ∨ ∃ b ∈ t.brs, b.id = p) → KidsAre t.brs (childs t p) p
theorem unit_pos {b : Br} (h : UnitOk b) : b.id ≠ 0 := by
  have := within_t.1 h.1
  omega
theorem childs_of {t : Tr} (h : idsAsc t.brs) {b : Br} (hb : b ∈ t.brs) (h0 : b.id ≠ 0) : childs t b.id = b.kids := by
  unfold childs
  rw [if_neg h0, find_byid h hb]
theorem sound_parts (t : Tr) : SoundM t ↔ CoreM t.brs ∧ KidsAll t := by
  constructor
  · intro h
    refine ⟨⟨h.len, h.asc, h.units, h.marks, h.placed, h.rank⟩, fun p hp => ?_⟩
    rcases hp with rfl | ⟨b, hb, rfl⟩
    · exact h.roots
    · rw [childs_of h.asc hb (unit_pos (h.units b hb))]
      exact h.kids b hb
  · rintro ⟨h, hk⟩
    refine ⟨h.len, h.asc, h.units, h.marks, h.placed, fun b hb => ?_, hk 0 (.inl rfl), h.rank⟩
    have := hk b.id (.inr ⟨b, hb, rfl⟩)
    rw [childs_of h.asc hb (unit_pos (h.units b hb))] at this
    exact this
end Go.Proofs.YtjaknioojpgkiaaGreatDoor

/- A unit that is moved: the tree stays right but for its depth. No condition. -/
namespace Go.Proofs.YtjaknioojpgkiaaGreatDoor
open Go.RowKit

/-- A unit that is the given one, or below it. -/
inductive UnderT (l : List Br) (n : Int) : Int → Prop
  | self : UnderT l n n
  | step {b : Br} : b ∈ l → b.parent ≠ 0 → UnderT l n b.parent → UnderT l n b.id
theorem under_parent {l : List Br} (h : idsAsc l) {n : Int} {b : Br} (hb : b ∈ l) (hne : b.id ≠ n) (hu : UnderT l n b.id) : b.parent ≠ 0 ∧ UnderT l n b.parent := by
  generalize hx : b.id = x at hu
  cases hu with
  | self => exact absurd hx hne
  | @step c hc hp hu =>
    have := asc_same h hb hc hx
    subst this
    exact ⟨hp, hu⟩
end Go.Proofs.YtjaknioojpgkiaaGreatDoor

/- A unit and all that are below it, in order: just the units under it. No condition. -/
namespace Go.Proofs.YtjaknioojpgkiaaGreatDoor
open Go.RowKit

/-- A unit and all that are below it, in order, so many steps down. -/
def belowL (t : Tr) : Nat → Int → List Int
  | 0, n => [n]
  | f + 1, n => n :: (childs t n).flatMap (belowL t f)
/-- A unit and all that are below it, in order; all units for 0. -/
def belowT (t : Tr) (n : Int) : List Int := if n = 0 then t.roots.flatMap (belowL t t.brs.length) else belowL t t.brs.length n
theorem under_trans {l : List Br} {a b c : Int} (h1 : UnderT l a b) (h2 : UnderT l b c) : UnderT l a c := by
  induction h2 with
  | self => exact h1
  | step hb hp _ ih => exact UnderT.step hb hp ih
theorem childs_mem {t : Tr} (h : SoundM t) {n x : Int} (hn : n = 0 ∨ ∃ b ∈ t.brs, b.id = n) : x ∈ childs t n ↔ ∃ c ∈ t.brs, c.parent = n ∧ c.id = x :=
  ((sound_parts t).1 h |>.2 n hn).2 x
theorem under_first {t : Tr} (h : SoundM t) {n x : Int} (hni : ∃ b ∈ t.brs, b.id = n) (hu : UnderT t.brs n x) : x = n ∨ ∃ k ∈ childs t n, UnderT t.brs k x := by
  induction hu with
  | self => exact .inl rfl
  | @step b hb hp _ ih =>
    rcases ih with e | ⟨k, hk, hu⟩
    · exact .inr ⟨b.id, (childs_mem h (.inr hni)).2 ⟨b, hb, e, rfl⟩, UnderT.self⟩
    · exact .inr ⟨k, hk, UnderT.step hb hp hu⟩
/-- How deep a child stands. -/
theorem deep_child {t : Tr} (h : SoundM t) {b c : Br} {d : Nat} (hb : b ∈ t.brs) (hc : c ∈ t.brs) (hp : c.parent = b.id) (hd : deep t.brs t.brs.length b = some d) : deep t.brs t.brs.length c = some (d + 1) := by
  have hb0 := unit_pos (h.units b hb)
  have h1 : deep t.brs (t.brs.length + 1) c = some (d + 1) := by
    unfold deep
    rw [if_neg (by rw [hp]; exact hb0), hp, find_byid h.asc hb]
    show (deep t.brs t.brs.length b).map (· + 1) = _
    rw [hd]
    rfl
  exact (deep_mono _ c _ h1).2 _ (by have := deep_le h.asc hc h1; omega)
theorem deep_some {t : Tr} (h : SoundM t) {b : Br} (hb : b ∈ t.brs) : ∃ d, deep t.brs t.brs.length b = some d ∧ d ≤ t.brs.length := by
  have h2 := (sound_iff t).2 h
  have := (all_mem (P := fun b => (deep t.brs t.brs.length b).isSome = true)).1 h2.2.2.2.2.2 b hb
  obtain ⟨d, hd⟩ := Option.isSome_iff_exists.1 this
  exact ⟨d, hd, deep_le h.asc hb hd⟩
theorem mem_belowL {t : Tr} (h : SoundM t) : ∀ (f : Nat) (b : Br) (d : Nat), b ∈ t.brs → deep t.brs t.brs.length b = some d → t.brs.length ≤ f + d → ∀ x, x ∈ belowL t f b.id ↔ UnderT t.brs b.id x := by
  intro f
  induction f with
  | zero =>
    intro b d hb hd hf x
    unfold belowL
    rw [List.mem_singleton]
    constructor
    · rintro rfl; exact UnderT.self
    · intro hu
      rcases under_first h ⟨b, hb, rfl⟩ hu with e | ⟨k, hk, _⟩
      · exact e
      · exfalso
        obtain ⟨c, hc, hp, _⟩ := (childs_mem h (.inr ⟨b, hb, rfl⟩)).1 hk
        have h1 := deep_child h hb hc hp hd
        have h2 := deep_le h.asc hc h1
        omega
  | succ f ih =>
    intro b d hb hd hf x
    unfold belowL
    rw [List.mem_cons, List.mem_flatMap]
    have hkid : ∀ k, k ∈ childs t b.id → ∃ c ∈ t.brs, c.parent = b.id ∧ c.id = k ∧ ∀ x, x ∈ belowL t f k ↔ UnderT t.brs k x := by
      intro k hk
      obtain ⟨c, hc, hp, e⟩ := (childs_mem h (.inr ⟨b, hb, rfl⟩)).1 hk
      refine ⟨c, hc, hp, e, fun x => ?_⟩
      rw [← e]
      exact ih c (d + 1) hc (deep_child h hb hc hp hd) (by omega) x
    constructor
    · rintro (rfl | ⟨k, hk, hx⟩)
      · exact UnderT.self
      · obtain ⟨c, hc, hp, e, hiff⟩ := hkid k hk
        refine under_trans ?_ ((hiff x).1 hx)
        rw [← e]
        exact UnderT.step hc (by rw [hp]; exact unit_pos (h.units b hb)) (by rw [hp]; exact UnderT.self)
    · intro hu
      rcases under_first h ⟨b, hb, rfl⟩ hu with e | ⟨k, hk, hx⟩
      · exact .inl e
      · obtain ⟨c, hc, hp, e, hiff⟩ := hkid k hk
        exact .inr ⟨k, hk, (hiff x).2 hx⟩
/-- What is below a unit of a sound tree: just the units under it. -/
theorem mem_below {t : Tr} (h : SoundM t) {b : Br} (hb : b ∈ t.brs) (x : Int) : x ∈ belowT t b.id ↔ UnderT t.brs b.id x := by
  obtain ⟨d, hd, _⟩ := deep_some h hb
  unfold belowT
  rw [if_neg (unit_pos (h.units b hb))]
  exact mem_belowL h _ b d hb hd (by omega) x
end Go.Proofs.YtjaknioojpgkiaaGreatDoor

/- The table of the elements: what the functions that read it return. No condition. -/
namespace Go.Proofs.YtjaknioojpgkiaaGreatDoor
open Go.RowKit

def isEl (n : Int) : Bool := decide (1 ≤ n ∧ n ≤ 8)
theorem isEl_t {n : Int} (h : isEl n = true) : 1 ≤ n ∧ n ≤ 8 := of_decide_eq_true h
theorem isEl_f {n : Int} (h : isEl n = false) : ¬ (1 ≤ n ∧ n ≤ 8) := of_decide_eq_false h
theorem isEl_cases {n : Int} (h : isEl n = true) : n = 1 ∨ n = 2 ∨ n = 3 ∨ n = 4 ∨ n = 5 ∨ n = 6 ∨ n = 7 ∨ n = 8 := by
  have := isEl_t h; omega

def kind0 : Kind := ⟨⟨#[]⟩, false, 0⟩
def kindTab : List Kind :=
  [kind0, ⟨⟨#[115, 99, 111, 112, 101]⟩, false, 30⟩, ⟨⟨#[104, 105, 115, 116, 111, 114, 121]⟩, true, 14⟩, ⟨⟨#[109, 97, 116, 101, 114, 105, 97, 108]⟩, true, 30⟩,
   ⟨⟨#[99, 111, 110, 100, 105, 116, 105, 111, 110, 115]⟩, true, 30⟩, ⟨⟨#[100, 97, 116, 101, 115]⟩, false, 30⟩, ⟨⟨#[110, 111, 116, 101]⟩, false, 30⟩, ⟨⟨#[111, 114, 100, 101, 114]⟩, false, 6⟩,
   ⟨⟨#[101, 120, 116, 101, 110, 116]⟩, false, 24⟩]
def kindOf (n : Int) : Kind := if isEl n then kindTab.getD n.toNat kind0 else kind0

theorem known_t (n : Int) (w : World) (h : isEl n = true) : Calls Tryz.prog 139 #[.int .i64 n] w fun e w' => e = .returned (.bool true) ∧ w = w' := by
  obtain ⟨h1, h2⟩ := isEl_t h
  clear h
  go_enter Tryz.func139, Tryz.ntmps139
  go_wp2
  go_ret
  exact ⟨rfl, rfl⟩
theorem known_f (n : Int) (w : World) (h : isEl n = false) : Calls Tryz.prog 139 #[.int .i64 n] w fun e w' => e = .returned (.bool false) ∧ w = w' := by
  have h' := isEl_f h
  clear h
  by_cases h1 : 1 ≤ n
  · have h2 : ¬ n ≤ 8 := fun x => h' ⟨h1, x⟩
    clear h'
    go_enter Tryz.func139, Tryz.ntmps139
    go_wp2
    go_ret
    exact ⟨rfl, rfl⟩
  · clear h'
    go_enter Tryz.func139, Tryz.ntmps139
    go_wp2
    go_ret
    exact ⟨rfl, rfl⟩
set_option maxRecDepth 100000 in
theorem kinds_any (w : World) : Calls Tryz.prog 140 #[] w fun e w' => e = .returned (.agg (kindTab.flatMap Kind.cells).toArray) ∧ Grew w w' := by
  go_enter Tryz.func140, Tryz.ntmps140
  go_wp2_with (refine wpList_store_new rfl 167 _ _ rfl _ _ rfl rfl (by kernel_rfl) (by simp) (by simp [Value.oneCell']) ?_)
  refine bodyPost_ret (v := .agg (kindTab.flatMap Kind.cells).toArray) (results_cell_row rfl _ _ w.heap.size 167 _ (0, 0) _ rfl (heap_alloc_new _ _) Tryz.underlying167 rfl (by kernel_rfl)) rfl ⟨rfl, (Grew.refl w).alloc _⟩

theorem ix1 (w : World) : (Instr.index 167 (.agg (kindTab.flatMap Kind.cells).toArray) (.int .i64 1)).run Tryz.prog w = .ok (kindTab.getD 1 kind0).agg w := by kernel_rfl
theorem ix2 (w : World) : (Instr.index 167 (.agg (kindTab.flatMap Kind.cells).toArray) (.int .i64 2)).run Tryz.prog w = .ok (kindTab.getD 2 kind0).agg w := by kernel_rfl
theorem ix3 (w : World) : (Instr.index 167 (.agg (kindTab.flatMap Kind.cells).toArray) (.int .i64 3)).run Tryz.prog w = .ok (kindTab.getD 3 kind0).agg w := by kernel_rfl
theorem ix4 (w : World) : (Instr.index 167 (.agg (kindTab.flatMap Kind.cells).toArray) (.int .i64 4)).run Tryz.prog w = .ok (kindTab.getD 4 kind0).agg w := by kernel_rfl
theorem ix5 (w : World) : (Instr.index 167 (.agg (kindTab.flatMap Kind.cells).toArray) (.int .i64 5)).run Tryz.prog w = .ok (kindTab.getD 5 kind0).agg w := by kernel_rfl
theorem ix6 (w : World) : (Instr.index 167 (.agg (kindTab.flatMap Kind.cells).toArray) (.int .i64 6)).run Tryz.prog w = .ok (kindTab.getD 6 kind0).agg w := by kernel_rfl
theorem ix7 (w : World) : (Instr.index 167 (.agg (kindTab.flatMap Kind.cells).toArray) (.int .i64 7)).run Tryz.prog w = .ok (kindTab.getD 7 kind0).agg w := by kernel_rfl
theorem ix8 (w : World) : (Instr.index 167 (.agg (kindTab.flatMap Kind.cells).toArray) (.int .i64 8)).run Tryz.prog w = .ok (kindTab.getD 8 kind0).agg w := by kernel_rfl

def kindCells : Array Value := (kindTab.flatMap Kind.cells).toArray
theorem kinds_any' (w : World) : Calls Tryz.prog 140 #[] w fun e w' => e = .returned (.agg kindCells) ∧ Grew w w' := kinds_any w
theorem index_kinds (n : Int) (h : isEl n = true) (w : World) : (Instr.index 167 (.agg kindCells) (.int .i64 n)).run Tryz.prog w = .ok (.agg #[.string (kindOf n).word, .bool (kindOf n).inh, .int .i64 (kindOf n).lev]) w := by
  rcases isEl_cases h with rfl | rfl | rfl | rfl | rfl | rfl | rfl | rfl
  · exact ix1 w
  · exact ix2 w
  · exact ix3 w
  · exact ix4 w
  · exact ix5 w
  · exact ix6 w
  · exact ix7 w
  · exact ix8 w

theorem of_any (n : Int) (w : World) : Calls Tryz.prog 97 #[.int .i64 n] w fun e w' => e = .returned (kindOf n).agg ∧ Grew w w' := by
  by_cases h : isEl n = true
  · have hix := index_kinds n h
    have hk := Lib.hid h
    unfold Kind.agg
    generalize kindOf n = k at hix ⊢
    clear h
    go_enter Tryz.func97, Tryz.ntmps97
    go_wp2_with (first | (go_at_call 139; refine (known_t _ _ hk.out).mono ?_; rintro e w1 ⟨rfl, rfl⟩) | (go_at_call 140; refine (kinds_any' _).mono ?_; rintro e w1 ⟨rfl, hb⟩; have hsz := hb.size; obtain ⟨hc, hf⟩ := hb.cells))
    refine bodyPost_ret (v := .agg #[.string k.word, .bool k.inh, .int .i64 k.lev]) (by simp [results, Tryz.results97, go_sem, hc]) rfl ⟨rfl, ?_⟩
    exact ((((Grew.refl w).alloc _).trans hb).setCell (Nat.le_refl _) _).setCell (Nat.le_refl _) _ |>.setCell (Nat.le_refl _) _
  · have e : kindOf n = kind0 := by simp [kindOf, h]
    rw [e]
    simp only [Bool.not_eq_true] at h
    have hk := Lib.hid h
    clear h e
    go_enter Tryz.func97, Tryz.ntmps97
    go_wp2_with (first | (go_at_call 139; refine (known_f _ _ hk.out).mono ?_; rintro e w1 ⟨rfl, rfl⟩))
    refine bodyPost_ret (v := kind0.agg) (by simp [results, Tryz.results97, go_sem, Kind.agg, kind0]) rfl ⟨rfl, (Grew.refl _).alloc _⟩
end Go.Proofs.YtjaknioojpgkiaaGreatDoor

/- slices.IndexFunc at this program's types: the first place at which the function that is handed over says yes. No condition but that it answers as p does. -/
namespace Go.Proofs.YtjaknioojpgkiaaGreatDoor
open Go.RowKit

set_option maxHeartbeats 1000000 in
/-- slices.IndexFunc at Val. -/
theorem indexFuncV (l : List Val) (p : Val → Bool) (g : Nat) (lb : Array Value) (eg : ∀ args w, (callFunc g args).run Tryz.prog w = .ok (.enter g args) w) (v : Value) (w : World) (hv : SlV w v l)
    (hp : ∀ W x, Grew w W → x ∈ l → Calls Tryz.prog g (#[x.agg] ++ lb) W fun e w' => e = .returned (.bool (p x)) ∧ Grew W w') :
    Calls Tryz.prog 87 #[v, .func (.func g) #[] lb] w fun e w' => e = .returned (.int .i64 (idxP p l)) ∧ Grew w w' := by
  obtain ⟨A, c, rfl, hlc, hc, hr⟩ := hv.open_
  unfold maxLen at hc
  have HR := Lib.hid hr
  have HP := Lib.hid hp
  clear hr hp hv
  go_enter Tryz.func87, Tryz.ntmps87
  go_wp2
  go_loopg [5, 8] l.length (fun gg _ s8 wr => ∃ kk : Nat, kk ≤ l.length ∧ l.length - kk ≤ gg ∧ s8 = .int .i64 kk ∧ Aside (Grew w wr) ∧ Aside (∀ i (hi : i < l.length), i < kk → p l[i] = false))
  case atStart => exact ⟨0, Nat.zero_le _, by omega, rfl, Grew.refl w, fun i hi h => absurd h (Nat.not_lt_zero _)⟩
  case round =>
    obtain ⟨kk, hkk, hg, rfl, BW, M⟩ := hrel
    by_cases hlt : kk < l.length
    · obtain ⟨b, off, rfl, hb, hcell⟩ := HR.out (by omega)
      obtain ⟨c0, c1, c2, c3⟩ := hcell wr BW.out kk hlt
      have hcall := HP.out wr l[kk] BW.out (List.getElem_mem hlt)
      have hltz : (kk : Int) < (l.length : Int) := by omega
      clear hcell
      generalize hy : l[kk] = y at c0 c1 c2 c3 hcall
      have B : Aside (l[kk] = y) := hy
      clear hy
      unfold Val.agg at hcall
      cases hq : p y with
      | true =>
        rw [hq] at hcall
        go_wp2_with (go_at_fn g; refine hcall.mono ?_; rintro e w' ⟨rfl, hb'⟩)
        go_ret
        refine ⟨?_, BW.out.trans hb'⟩
        rw [idxP_hit p l kk hlt (by rw [B.out]; exact hq) M.out]
        rfl
      | false =>
        rw [hq] at hcall
        go_wp2_with (go_at_fn g; refine hcall.mono ?_; rintro e w' ⟨rfl, hb'⟩)
        go_roundg (l.length - (kk + 1))
        case measure => omega
        case rel =>
          refine ⟨kk + 1, by omega, by omega, by go_num, BW.out.trans hb', (show Aside _ from fun i hi h => ?_)⟩
          by_cases e : i = kk
          · subst e
            rw [B.out]; exact hq
          · exact M.out i hi (by omega)
    · have hltz : ¬ (kk : Int) < (l.length : Int) := by omega
      go_wp2
      go_ret
      refine ⟨?_, BW.out⟩
      rw [idxP_miss p l (fun i hi => M.out i hi (by omega))]
      rfl

set_option maxHeartbeats 1000000 in
/-- slices.IndexFunc at ByteArray. -/
theorem indexFuncS (l : List ByteArray) (p : ByteArray → Bool) (g : Nat) (lb : Array Value) (eg : ∀ args w, (callFunc g args).run Tryz.prog w = .ok (.enter g args) w) (v : Value) (w : World) (hv : SlS w v l)
    (hp : ∀ W x, Grew w W → x ∈ l → Calls Tryz.prog g (#[(.string x)] ++ lb) W fun e w' => e = .returned (.bool (p x)) ∧ Grew W w') :
    Calls Tryz.prog 108 #[v, .func (.func g) #[] lb] w fun e w' => e = .returned (.int .i64 (idxP p l)) ∧ Grew w w' := by
  obtain ⟨A, c, rfl, hlc, hc, hr⟩ := hv.open_
  unfold maxLen at hc
  have HR := Lib.hid hr
  have HP := Lib.hid hp
  clear hr hp hv
  go_enter Tryz.func108, Tryz.ntmps108
  go_wp2
  go_loopg [5, 8] l.length (fun gg _ s8 wr => ∃ kk : Nat, kk ≤ l.length ∧ l.length - kk ≤ gg ∧ s8 = .int .i64 kk ∧ Aside (Grew w wr) ∧ Aside (∀ i (hi : i < l.length), i < kk → p l[i] = false))
  case atStart => exact ⟨0, Nat.zero_le _, by omega, rfl, Grew.refl w, fun i hi h => absurd h (Nat.not_lt_zero _)⟩
  case round =>
    obtain ⟨kk, hkk, hg, rfl, BW, M⟩ := hrel
    by_cases hlt : kk < l.length
    · obtain ⟨b, off, rfl, hb, hcell⟩ := HR.out (by omega)
      obtain c0 := hcell wr BW.out kk hlt
      have hcall := HP.out wr l[kk] BW.out (List.getElem_mem hlt)
      have hltz : (kk : Int) < (l.length : Int) := by omega
      clear hcell
      generalize hy : l[kk] = y at c0 hcall
      have B : Aside (l[kk] = y) := hy
      clear hy
      cases hq : p y with
      | true =>
        rw [hq] at hcall
        go_wp2_with (go_at_fn g; refine hcall.mono ?_; rintro e w' ⟨rfl, hb'⟩)
        go_ret
        refine ⟨?_, BW.out.trans hb'⟩
        rw [idxP_hit p l kk hlt (by rw [B.out]; exact hq) M.out]
        rfl
      | false =>
        rw [hq] at hcall
        go_wp2_with (go_at_fn g; refine hcall.mono ?_; rintro e w' ⟨rfl, hb'⟩)
        go_roundg (l.length - (kk + 1))
        case measure => omega
        case rel =>
          refine ⟨kk + 1, by omega, by omega, by go_num, BW.out.trans hb', (show Aside _ from fun i hi h => ?_)⟩
          by_cases e : i = kk
          · subst e
            rw [B.out]; exact hq
          · exact M.out i hi (by omega)
    · have hltz : ¬ (kk : Int) < (l.length : Int) := by omega
      go_wp2
      go_ret
      refine ⟨?_, BW.out⟩
      rw [idxP_miss p l (fun i hi => M.out i hi (by omega))]
      rfl

end Go.Proofs.YtjaknioojpgkiaaGreatDoor

/- Word, Inherited, Allowed and Number of package element and of the reference: what they return. No condition. -/
namespace Go.Proofs.YtjaknioojpgkiaaGreatDoor
open Go.RowKit

@[go_sem] theorem field_kind0 (a b c : Value) (w : World) : (Instr.field 124 (.agg #[a, b, c]) 0).run Tryz.prog w = .ok a w := by kernel_rfl
@[go_sem] theorem field_kind1 (a b c : Value) (w : World) : (Instr.field 124 (.agg #[a, b, c]) 1).run Tryz.prog w = .ok b w := by kernel_rfl
@[go_sem] theorem field_kind2 (a b c : Value) (w : World) : (Instr.field 124 (.agg #[a, b, c]) 2).run Tryz.prog w = .ok c w := by kernel_rfl
set_option maxRecDepth 100000 in
theorem word_any (n : Int) (w : World) : Calls Tryz.prog 35 #[.int .i64 n] w fun e w' => e = .returned (.string (kindOf n).word) ∧ Grew w w' := by
  have ho := of_any n
  unfold Kind.agg at ho
  generalize kindOf n = k at ho ⊢
  have HO := Lib.hid ho
  clear ho
  go_enter Tryz.func35, Tryz.ntmps35
  go_wp2_with (first | (go_at_call 97; refine (HO.out _).mono ?_; rintro e w1 ⟨rfl, hb⟩))
  go_ret
  exact ⟨rfl, hb⟩
set_option maxRecDepth 100000 in
theorem inherited_any (n : Int) (w : World) : Calls Tryz.prog 44 #[.int .i64 n] w fun e w' => e = .returned (.bool (kindOf n).inh) ∧ Grew w w' := by
  have ho := of_any n
  unfold Kind.agg at ho
  generalize kindOf n = k at ho ⊢
  have HO := Lib.hid ho
  clear ho
  go_enter Tryz.func44, Tryz.ntmps44
  go_wp2_with (first | (go_at_call 97; refine (HO.out _).mono ?_; rintro e w1 ⟨rfl, hb⟩))
  go_ret
  exact ⟨rfl, hb⟩

/-- Whether an element can stand at a level. -/
def allowedF (n lv : Int) : Bool := decide (1 ≤ lv ∧ lv ≤ 4) && decide ((kindOf n).lev / 2 ^ lv.toNat % 2 = 1)
theorem lev_cases (n : Int) : (kindOf n).lev = 0 ∨ (kindOf n).lev = 6 ∨ (kindOf n).lev = 14 ∨ (kindOf n).lev = 24 ∨ (kindOf n).lev = 30 := by
  by_cases h : isEl n = true
  · rcases isEl_cases h with rfl | rfl | rfl | rfl | rfl | rfl | rfl | rfl <;> decide
  · exact .inl (by simp [kindOf, h, kind0])
set_option maxRecDepth 100000 in
set_option maxHeartbeats 1000000 in
theorem allowed_any (n lv : Int) (w : World) : Calls Tryz.prog 110 #[.int .i64 n, .int .i64 lv] w fun e w' => e = .returned (.bool (allowedF n lv)) ∧ Grew w w' := by
  by_cases h1 : 1 ≤ lv
  · by_cases h2 : lv ≤ 4
    · have hl := lev_cases n
      have hv : lv = 1 ∨ lv = 2 ∨ lv = 3 ∨ lv = 4 := by omega
      have ho := of_any n
      unfold Kind.agg at ho
      unfold allowedF
      generalize kindOf n = k at ho hl ⊢
      obtain ⟨ww, hh, L⟩ := k
      dsimp only at ho hl ⊢
      have HO := Lib.hid ho
      clear ho h1 h2
      rcases hv with rfl | rfl | rfl | rfl <;> rcases hl with rfl | rfl | rfl | rfl | rfl <;>
      · go_enter Tryz.func110, Tryz.ntmps110
        go_wp2_with (first | (go_at_call 97; refine (HO.out _).mono ?_; rintro e w1 ⟨rfl, hb⟩))
        go_ret
        exact ⟨rfl, hb⟩
    · have e : allowedF n lv = false := by simp only [allowedF, Bool.and_eq_false_iff, decide_eq_false_iff_not]; omega
      rw [e]
      clear e
      go_enter Tryz.func110, Tryz.ntmps110
      go_wp2
      go_ret
      exact ⟨rfl, Grew.refl w⟩
  · have e : allowedF n lv = false := by simp only [allowedF, Bool.and_eq_false_iff, decide_eq_false_iff_not]; omega
    rw [e]
    clear e
    go_enter Tryz.func110, Tryz.ntmps110
    go_wp2
    go_ret
    exact ⟨rfl, Grew.refl w⟩

end Go.Proofs.YtjaknioojpgkiaaGreatDoor

/- Plain facts on texts and languages: no program in sight. No condition. -/
namespace Go.Proofs.YtjaknioojpgkiaaGreatDoor

theorem dropW_nil {p : UInt8 → Bool} {l : List UInt8} : l.dropWhile p = [] ↔ l.all p = true := by
  induction l with
  | nil => simp
  | cons x r ih =>
    rw [List.dropWhile_cons]
    by_cases hx : p x = true
    · simp [hx, ih]
    · simp [hx]
theorem dropW_head {p : UInt8 → Bool} (l : List UInt8) (b : UInt8) (h : (l.dropWhile p).head? = some b) : p b = false := by
  induction l with
  | nil => simp at h
  | cons x r ih =>
    rw [List.dropWhile_cons] at h
    by_cases hx : p x = true
    · rw [if_pos hx] at h; exact ih h
    · rw [if_neg hx] at h
      simp at h
      subst h
      simpa using hx

theorem trim_nil (l cs : List UInt8) : Lib.trimS l cs = [] ↔ l.all (cs.contains ·) = true := by
  unfold Lib.trimS Lib.trimLeftS Lib.trimRightS
  constructor
  · intro h
    rw [dropW_nil, List.all_reverse] at h
    cases hd : l.reverse.dropWhile (cs.contains ·) with
    | nil => rw [dropW_nil, List.all_reverse] at hd; exact hd
    | cons x r =>
      have h1 := dropW_head l.reverse x (by rw [hd]; rfl)
      rw [hd] at h
      have h2 : cs.contains x = true := by
        rw [List.all_eq_true] at h
        exact h x (by simp)
      rw [h1] at h2
      cases h2
  · intro h
    rw [← List.all_reverse] at h
    rw [dropW_nil.2 h]
    rfl

/-- A byte that a text can hold. -/
def okT (b : UInt8) : Bool := b == 10 || (decide (32 ≤ b) && decide (b ≤ 126))
def isTextF (l : List UInt8) : Bool := decide (1 ≤ l.length ∧ l.length ≤ 4096) && decide (Lib.trimS l [32, 10] = l) && l.all okT
def isLow (b : UInt8) : Bool := decide (97 ≤ b) && decide (b ≤ 122)
def isLangF (l : List UInt8) : Bool := decide (l.length = 2) && l.all isLow

def azL : List UInt8 := [97, 98, 99, 100, 101, 102, 103, 104, 105, 106, 107, 108, 109, 110, 111, 112, 113, 114, 115, 116, 117, 118, 119, 120, 121, 122]
theorem az_fin : ∀ n : Fin 256, azL.contains (UInt8.ofFin n) = isLow (UInt8.ofFin n) := by decide +kernel
theorem az_low (b : UInt8) : azL.contains b = isLow b := az_fin b.toFin
theorem lang_trim (l : List UInt8) (h : l.length = 2) : decide (Lib.trimS l azL = []) = isLangF l := by
  unfold isLangF
  rw [show decide (l.length = 2) = true by simpa using h, Bool.true_and]
  have e : l.all (azL.contains ·) = l.all isLow := by congr 1; funext b; exact az_low b
  rw [Bool.eq_iff_iff, decide_eq_true_iff, trim_nil, e]
theorem lang_len (l : List UInt8) (h : l.length ≠ 2) : isLangF l = false := by simp [isLangF, h]
theorem text_len (l : List UInt8) (h : ¬ (1 ≤ l.length ∧ l.length ≤ 4096)) : isTextF l = false := by
  simp only [isTextF, Bool.and_eq_false_iff, decide_eq_false_iff_not]
  exact .inl (.inl h)
theorem text_trim (l : List UInt8) (h : Lib.trimS l [32, 10] ≠ l) : isTextF l = false := by simp [isTextF, h]
theorem text_all (l : List UInt8) (h1 : 1 ≤ l.length) (h2 : l.length ≤ 4096) (h : Lib.trimS l [32, 10] = l) : isTextF l = l.all okT := by simp [isTextF, h1, h2, h]
end Go.Proofs.YtjaknioojpgkiaaGreatDoor

/- Texts and languages: what the functions that check them return. No condition. -/
namespace Go.Proofs.YtjaknioojpgkiaaGreatDoor
open Go.RowKit

theorem azBA : (⟨#[97, 98, 99, 100, 101, 102, 103, 104, 105, 106, 107, 108, 109, 110, 111, 112, 113, 114, 115, 116, 117, 118, 119, 120, 121, 122]⟩ : ByteArray).data.toList = azL := rfl
theorem ascii_az : ∀ (j : Nat) b, azL[j]? = some b → b.toNat < 128 := by
  intro j b h
  have hm := List.mem_of_getElem? h
  have ha : azL.all (fun b => decide (b.toNat < 128)) = true := by decide
  rw [List.all_eq_true] at ha
  simpa using ha b hm
theorem language_any (s : ByteArray) (w : World) : Calls Tryz.prog 194 #[.string s] w fun e w' => e = .returned (.bool (isLangF s.data.toList)) ∧ Grew w w' := by
  by_cases h : s.size = 2
  · have hl : s.data.toList.length = 2 := by rw [← h]; cases s; rfl
    rw [← lang_trim _ hl]
    have hb : ((s.size : Int) == 2) = true := by simp; omega
    have hs : s.size ≤ 9223372036854775807 := by omega
    have ht := fun w => Tryz.strings_Trim s ⟨#[97, 98, 99, 100, 101, 102, 103, 104, 105, 106, 107, 108, 109, 110, 111, 112, 113, 114, 115, 116, 117, 118, 119, 120, 121, 122]⟩ w hs (by decide) ascii_az
    rw [azBA] at ht
    generalize Lib.trimS s.data.toList azL = T at ht ⊢
    have HT := Lib.hid ht
    clear ht hl h
    go_enter Tryz.func194, Tryz.ntmps194
    go_wp2_with (first | (go_at_call 123; refine (HT.out _).mono ?_; rintro e w1 ⟨rfl, hg⟩))
    go_ret
    exact ⟨by cases T <;> rfl, hg⟩
  · have hl : s.data.toList.length ≠ 2 := by intro e; apply h; rw [← e]; cases s; rfl
    rw [lang_len _ hl]
    have hb : ((s.size : Int) == 2) = false := by simp; omega
    clear hl h
    go_enter Tryz.func194, Tryz.ntmps194
    go_wp2
    go_ret
    exact ⟨rfl, Grew.refl w⟩
theorem languages1_any (s : ByteArray) (w : World) : Calls Tryz.prog 235 #[.string s] w fun e w' => e = .returned (.bool (!isLangF s.data.toList)) ∧ Grew w w' := by
  have hl := language_any s
  generalize isLangF s.data.toList = b at hl ⊢
  have HL := Lib.hid hl
  clear hl
  go_enter Tryz.func235, Tryz.ntmps235
  go_wp2_with (first | (go_at_call 194; refine (HL.out _).mono ?_; rintro e w1 ⟨rfl, hg⟩))
  go_ret
  exact ⟨rfl, hg⟩

theorem size_dataE (s : ByteArray) : s.data.toList.length = s.size := by cases s; rfl
theorem toList_dataE (s : ByteArray) : s.toList = s.data.toList := ByteArray.toList_eq s
theorem okB_int (b : UInt8) : okT b = true ↔ (b.toNat : Int) = 10 ∨ 32 ≤ (b.toNat : Int) ∧ (b.toNat : Int) ≤ 126 := by
  simp only [okT, Bool.or_eq_true, beq_iff_eq, Bool.and_eq_true, decide_eq_true_iff, UInt8.le_iff_toNat_le, ← UInt8.toNat_inj]
  have h1 : (10 : UInt8).toNat = 10 := rfl
  have h2 : (32 : UInt8).toNat = 32 := rfl
  have h3 : (126 : UInt8).toNat = 126 := rfl
  omega
theorem all_take (p : UInt8 → Bool) (s : ByteArray) (h : ∀ j (hj : j < s.size), p s[j] = true) : s.data.toList.all p = true := by
  rw [List.all_eq_true]
  intro b hb
  obtain ⟨j, hj, rfl⟩ := List.getElem_of_mem hb
  exact h j (by rw [size_dataE] at hj; exact hj)
theorem all_bad (p : UInt8 → Bool) (s : ByteArray) (j : Nat) (hj : j < s.size) (h : p s[j] = false) : s.data.toList.all p = false := by
  rw [Bool.eq_false_iff]
  intro ha
  rw [List.all_eq_true] at ha
  have := ha s[j] (by have := List.getElem_mem (l := s.data.toList) (n := j) (by rw [size_dataE]; exact hj); exact this)
  rw [h] at this
  cases this
theorem ascii_edge : ∀ (j : Nat) b, (⟨#[32, 10]⟩ : ByteArray).data.toList[j]? = some b → b.toNat < 128 := by
  intro j b h
  have hm := List.mem_of_getElem? h
  simp at hm
  rcases hm with rfl | rfl <;> decide

set_option maxHeartbeats 1000000 in
theorem isText_any (s : ByteArray) (w : World) : Calls Tryz.prog 112 #[.string s] w fun e w' => e = .returned (.bool (isTextF s.data.toList)) ∧ Grew w w' := by
  have hsd := size_dataE s
  by_cases h0 : s.size = 0
  · rw [text_len _ (by omega)]
    have he : s.toList.isEmpty = true := by rw [toList_dataE, List.isEmpty_iff]; exact List.eq_nil_of_length_eq_zero (by omega)
    clear hsd
    go_enter Tryz.func112, Tryz.ntmps112
    go_wp2
    go_ret
    exact ⟨rfl, Grew.refl w⟩
  have he : s.toList.isEmpty = false := by rw [toList_dataE, Bool.eq_false_iff]; intro h; rw [List.isEmpty_iff] at h; rw [h] at hsd; simp at hsd; omega
  by_cases h1 : 4096 < s.size
  · rw [text_len _ (by omega)]
    have h1' : (4096 : Int) < (s.size : Int) := by omega
    clear hsd
    go_enter Tryz.func112, Tryz.ntmps112
    go_wp2
    go_ret
    exact ⟨rfl, Grew.refl w⟩
  have h1' : ¬ (4096 : Int) < (s.size : Int) := by omega
  have ht := fun w => Tryz.strings_Trim s ⟨#[32, 10]⟩ w (by omega) (by decide) ascii_edge
  by_cases h2 : Lib.trimS s.data.toList [32, 10] = s.data.toList
  · have ha := text_all _ (by omega) (by omega) h2
    rw [ha]
    generalize hBe : s.data.toList.all okT = B
    have HB := Lib.hid hBe
    clear hBe
    have ht' : ∀ w, Calls Tryz.prog 123 #[.string s, .string ⟨#[32, 10]⟩] w fun e w' => e = .returned (.string s) ∧ Grew w w' := fun w => by
      refine (ht w).mono ?_
      rintro e w' ⟨rfl, hg⟩
      refine ⟨?_, hg⟩
      rw [show (⟨#[32, 10]⟩ : ByteArray).data.toList = [32, 10] from rfl, h2]
    have HT := Lib.hid ht'
    clear ht ht' h2 ha hsd h0 h1
    have hs : s.size ≤ 4096 := by omega
    go_enter Tryz.func112, Tryz.ntmps112
    go_wp2_with (first | (go_at_call 123; refine (HT.out _).mono ?_; rintro e w1 ⟨rfl, hg⟩))
    go_loop [3, 19] (fun _ i => ∃ k : Nat, k ≤ s.size ∧ i = .int .i64 k ∧ Aside (∀ j (hj : j < s.size), j < k → okT s[j] = true)) (fun _ i => s.size - (intOf i).toNat)
    case atStart => exact ⟨0, Nat.zero_le _, rfl, fun j hj h => absurd h (Nat.not_lt_zero _)⟩
    case round =>
      obtain ⟨k, hk, rfl, M⟩ := hrel
      by_cases hlt : k < s.size
      · have hok := okB_int s[k]
        cases hq : okT s[k] with
        | true =>
          have Hq : Aside (okT s[k] = true) := hq
          rw [hq] at hok
          have hok' := hok.1 rfl
          clear hok hq
          by_cases hx : (s[k].toNat : Int) = 10
          · have hcb : ((s[k].toNat : Int) != 10) = false := by simpa using hx
            clear hx hok'
            go_wp2
            go_round
            case rel =>
              refine ⟨k + 1, by omega, by go_num, fun j hj h => ?_⟩
              by_cases e : j = k
              · subst e; exact Hq.out
              · exact M.out j hj (by omega)
            case measure => simp [intOf]; omega
          · have hcb : ((s[k].toNat : Int) != 10) = true := by simpa using hx
            have hc1 : 32 ≤ (s[k].toNat : Int) := by omega
            have hc2 : (s[k].toNat : Int) ≤ 126 := by omega
            clear hx hok'
            go_wp2
            go_round
            case rel =>
              refine ⟨k + 1, by omega, by go_num, fun j hj h => ?_⟩
              by_cases e : j = k
              · subst e; exact Hq.out
              · exact M.out j hj (by omega)
            case measure => simp [intOf]; omega
        | false =>
          have Hb := Lib.hid (HB.out.symm.trans (all_bad okT s k hlt hq))
          have hn : ¬ ((s[k].toNat : Int) = 10 ∨ 32 ≤ (s[k].toNat : Int) ∧ (s[k].toNat : Int) ≤ 126) := fun h => by rw [hok.2 h] at hq; cases hq
          have hcb : ((s[k].toNat : Int) != 10) = true := by rw [bne_iff_ne]; omega
          by_cases h32 : (s[k].toNat : Int) < 32
          · clear hok hn hq
            go_wp2
            go_ret
            exact ⟨ret_bool Hb.out.symm, hg⟩
          · have h126 : (126 : Int) < (s[k].toNat : Int) := by omega
            clear hok hn hq
            go_wp2
            go_ret
            exact ⟨ret_bool Hb.out.symm, hg⟩
      · have Ha := Lib.hid (HB.out.symm.trans (all_take okT s (fun j hj => M.out j hj (by omega))))
        go_wp2
        go_ret
        exact ⟨ret_bool Ha.out.symm, hg⟩
  · rw [text_trim _ h2]
    have hne : (s.toList == Lib.trimS s.data.toList [32, 10]) = false := by rw [toList_dataE, beq_eq_false_iff_ne]; exact fun e => h2 e.symm
    rw [show (⟨#[32, 10]⟩ : ByteArray).data.toList = [32, 10] from rfl] at ht
    generalize Lib.trimS s.data.toList [32, 10] = T at ht hne
    have HT := Lib.hid ht
    clear ht h2 hsd h0 h1
    go_enter Tryz.func112, Tryz.ntmps112
    go_wp2_with (first | (go_at_call 123; refine (HT.out _).mono ?_; rintro e w1 ⟨rfl, hg⟩))
    go_ret
    exact ⟨rfl, hg⟩

end Go.Proofs.YtjaknioojpgkiaaGreatDoor
