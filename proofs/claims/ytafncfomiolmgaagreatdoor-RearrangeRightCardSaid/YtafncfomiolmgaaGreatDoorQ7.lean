/- Lemmas on what the functions of the program and of the library compute: PlainO, PlainP, PlainQ, PlainZ, PlainMv, PlainBl, PlainAp, RF1, RR1. The conditions stand at each. -/
import Derived.Test.YtafncfomiolmgaaGreatDoorQ5
import Derived.Test.YtafncfomiolmgaaGreatDoorQ6
import Derived.Test.YtafncfomiolmgaaGreatDoorQ3
/- A tree that is right but for its depth: by its list, and by membership. No condition. -/
namespace Go.Proofs.YtafncfomiolmgaaGreatDoor
open Go.RowKit

theorem all_mem {l : List Br} {P : Br → Prop} : (∀ i (h : i < l.length), P l[i]) ↔ ∀ b ∈ l, P b := by
  constructor
  · intro h b hb
    obtain ⟨k, hk, rfl⟩ := List.mem_iff_getElem.1 hb
    exact h k hk
  · exact fun h i hi => h _ (List.getElem_mem hi)
theorem sound_iff (t : Tr) : SoundT t ↔ SoundM t := by
  constructor
  · rintro ⟨h0, h1, h2, h3, h4, h5⟩
    obtain ⟨ha, hu, hm⟩ := (alone_iff t.brs).1 h1
    have hp := (all_mem (P := BrPlaced t.brs)).1 h2
    refine ⟨h0, ha, hu, hm, hp, fun b hb => (kidsAre_iff ha _ _).2 ((all_mem (P := fun b => sortI b.kids = kidsOf t.brs b.id)).1 h3 b hb), (kidsAre_iff ha _ _).2 h4, rank_of_deep ha (placed_upM hp) ((all_mem (P := fun b => (deep t.brs t.brs.length b).isSome = true)).1 h5)⟩
  · rintro ⟨h0, ha, hu, hm, hp, hk, hr, r, hrk⟩
    refine ⟨h0, (alone_iff t.brs).2 ⟨ha, hu, hm⟩, (all_mem (P := BrPlaced t.brs)).2 hp, (all_mem (P := fun b => sortI b.kids = kidsOf t.brs b.id)).2 fun b hb => (kidsAre_iff ha _ _).1 (hk b hb), (kidsAre_iff ha _ _).1 hr, (all_mem (P := fun b => (deep t.brs t.brs.length b).isSome = true)).2 fun b hb => deep_full ha hb (deep_of_rank (placed_upM hp) r hrk (r b.id) b hb (Nat.le_refl _))⟩
theorem right_sound {t : Tr} (h : RightT t) : SoundM t := by
  refine (sound_iff t).1 ⟨h.1, h.2.1, h.2.2.1, h.2.2.2.1, h.2.2.2.2.1, fun i hi => ?_⟩
  obtain ⟨d, hd, -⟩ := h.2.2.2.2.2 i hi
  rw [hd]
  rfl
theorem right_iff (t : Tr) : RightT t ↔ SoundM t ∧ ∀ b ∈ t.brs, BrDeep t.brs b := by
  constructor
  · exact fun h => ⟨right_sound h, (all_mem (P := BrDeep t.brs)).1 h.2.2.2.2.2⟩
  · rintro ⟨h, hd⟩
    obtain ⟨h0, h1, h2, h3, h4, -⟩ := (sound_iff t).2 h
    exact ⟨h0, h1, h2, h3, h4, (all_mem (P := BrDeep t.brs)).2 hd⟩

/-- An operation. -/
structure Opn where
  id : Int
  day : Int
  kind : Int
  unit : Int
  parent : Int
  before : Int
  level : Int
  title : ByteArray
  mark : ByteArray
  office : Int
  acc : Int
  num : Int
deriving DecidableEq, Inhabited
/-- The children of a unit, and those at the top for 0. -/
def childs (t : Tr) (p : Int) : List Int := if p = 0 then t.roots else match brFind t.brs p with
  | none => []
  | some b => b.kids
/-- Other children of a unit, or at the top for 0. -/
def setK (t : Tr) (p : Int) (ks : List Int) : Tr := if p = 0 then ⟨ks, t.brs⟩ else ⟨t.roots, t.brs.map fun b => if b.id = p then { b with kids := ks } else b⟩
/-- A number in front of another one, or at the end. -/
def putF (n before : Int) : List Int → List Int
  | [] => if before = 0 then [n] else []
  | x :: r => if x = before then n :: x :: r else x :: putF n before r
def withoutF (n : Int) (l : List Int) : List Int := l.filter fun x => !(x == n)
/-- One more branch, in its place. -/
def insB (b : Br) : List Br → List Br
  | [] => [b]
  | x :: r => if x.id < b.id then x :: insB b r else b :: x :: r
/-- Other fields of a unit; its children stay. -/
def setU (t : Tr) (n : Int) (f : Br → Br) : Tr := ⟨t.roots, t.brs.map fun b => if b.id = n then f b else b⟩
def createT (t : Tr) (o : Opn) : Tr :=
  let t1 := setK t o.parent (putF o.unit o.before (childs t o.parent))
  ⟨t1.roots, insB ⟨o.unit, o.parent, o.level, o.title, o.mark, []⟩ t1.brs⟩
def moveT (t : Tr) (o : Opn) (u : Br) : Tr :=
  let t1 := setK t u.parent (withoutF o.unit (childs t u.parent))
  let t2 := setK t1 o.parent (putF o.unit o.before (childs t1 o.parent))
  setU t2 o.unit fun b => { b with parent := o.parent }
def removeT (t : Tr) (o : Opn) (u : Br) : Tr :=
  let t1 := setK t u.parent (withoutF o.unit (childs t u.parent))
  ⟨t1.roots, t1.brs.filter fun b => !(b.id == o.unit)⟩
end Go.Proofs.YtafncfomiolmgaaGreatDoor

/- A tree that is right but for its depth: its units and its lists of children apart; other children leave the units as they are. No condition. -/
namespace Go.Proofs.YtafncfomiolmgaaGreatDoor
open Go.RowKit

/-- A unit without its children. -/
def core (b : Br) : Br := { b with kids := [] }
/-- What is asked of the units, whatever their children. -/
structure CoreM (l : List Br) : Prop where
  len : l.length ≤ 256
  asc : idsAsc l
  units : ∀ b ∈ l, UnitOk b
  marks : ∀ b ∈ l, ∀ c ∈ l, b.mark.toList.isEmpty = false → b.mark.toList = c.mark.toList → b.id = c.id
  placed : ∀ b ∈ l, BrPlaced l b
  rank : ∃ r : Int → Nat, ∀ b ∈ l, b.parent ≠ 0 → r b.parent < r b.id
theorem find_iff {l : List Br} (h : idsAsc l) (n : Int) (b : Br) : brFind l n = some b ↔ b ∈ l ∧ b.id = n :=
  ⟨find_in, fun ⟨h1, h2⟩ => by rw [← h2]; exact find_byid h h1⟩
theorem find_none {l : List Br} (n : Int) : brFind l n = none ↔ ∀ b ∈ l, b.id ≠ n := by
  unfold brFind
  rw [List.find?_eq_none]
  simp
theorem fits_one {p c : Int} (h : fitsF p c = true) : c ≠ 1 := by
  unfold fitsF within at h
  simp at h
  omega
/-- How a unit stands below its parent, by membership. -/
theorem placed_mem {l : List Br} (h : idsAsc l) (b : Br) : BrPlaced l b ↔ (b.parent = 0 ∧ b.level = 1) ∨ (b.parent ≠ 0 ∧ ∃ p ∈ l, p.id = b.parent ∧ fitsF p.level b.level = true) := by
  unfold BrPlaced
  by_cases hp : b.parent = 0
  · simp [hp]
  · rw [if_neg hp]
    constructor
    · rintro ⟨p, hf, h1, h2⟩
      have := find_in hf
      exact .inr ⟨hp, p, this.1, this.2, h2⟩
    · rintro (⟨h0, _⟩ | ⟨_, p, hm, hi, hf⟩)
      · exact absurd h0 hp
      · exact ⟨p, by rw [← hi]; exact find_byid h hm, fits_one hf, hf⟩
theorem core_all {a b : Br} (h : core a = core b) : a.id = b.id ∧ a.parent = b.parent ∧ a.level = b.level ∧ a.title = b.title ∧ a.mark = b.mark := by
  obtain ⟨a0, a1, a2, a3, a4, a5⟩ := a
  obtain ⟨b0, b1, b2, b3, b4, b5⟩ := b
  simp only [core, Br.mk.injEq, and_true] at h
  exact h
/-- What is asked of the units turns on the units without their children alone. -/
theorem core_map {l : List Br} (g : Br → Br) (hg : ∀ b, core (g b) = core b) (h : CoreM l) : CoreM (l.map g) := by
  have e1 : ∀ b, (g b).id = b.id := fun b => (core_all (hg b)).1
  have e2 : ∀ b, (g b).parent = b.parent := fun b => (core_all (hg b)).2.1
  have e3 : ∀ b, (g b).level = b.level := fun b => (core_all (hg b)).2.2.1
  have e4 : ∀ b, (g b).title = b.title := fun b => (core_all (hg b)).2.2.2.1
  have e5 : ∀ b, (g b).mark = b.mark := fun b => (core_all (hg b)).2.2.2.2
  have hasc : idsAsc (l.map g) := List.Pairwise.map _ (fun a b hab => by rw [e1, e1]; exact hab) h.asc
  refine ⟨by rw [List.length_map]; exact h.len, hasc, ?_, ?_, ?_, ?_⟩
  · intro b hb
    obtain ⟨c, hc, rfl⟩ := List.mem_map.1 hb
    have := h.units c hc
    unfold UnitOk at this ⊢
    rw [e1, e3, e4, e5]
    exact this
  · intro b hb c hc
    obtain ⟨b1, hb1, rfl⟩ := List.mem_map.1 hb
    obtain ⟨c1, hc1, rfl⟩ := List.mem_map.1 hc
    rw [e1, e1, e5, e5]
    exact h.marks b1 hb1 c1 hc1
  · intro b hb
    obtain ⟨b1, hb1, rfl⟩ := List.mem_map.1 hb
    rw [placed_mem hasc, e2, e3]
    rcases (placed_mem h.asc b1).1 (h.placed b1 hb1) with h1 | ⟨h1, p, hp, h2, h3⟩
    · exact .inl h1
    · exact .inr ⟨h1, g p, List.mem_map.2 ⟨p, hp, rfl⟩, by rw [e1]; exact h2, by rw [e3]; exact h3⟩
  · obtain ⟨r, hr⟩ := h.rank
    refine ⟨r, fun b hb => ?_⟩
    obtain ⟨b1, hb1, rfl⟩ := List.mem_map.1 hb
    rw [e1, e2]
    exact hr b1 hb1
theorem kids_map {l : List Br} (g : Br → Br) (hg : ∀ b, core (g b) = core b) (ks : List Int) (p : Int) : KidsAre (l.map g) ks p ↔ KidsAre l ks p := by
  have e1 : ∀ b, (g b).id = b.id := fun b => (core_all (hg b)).1
  have e2 : ∀ b, (g b).parent = b.parent := fun b => (core_all (hg b)).2.1
  unfold KidsAre
  have hx : ∀ x, (∃ b ∈ l.map g, b.parent = p ∧ b.id = x) ↔ ∃ b ∈ l, b.parent = p ∧ b.id = x := by
    intro x
    constructor
    · rintro ⟨b, hb, h1, h2⟩
      obtain ⟨c, hc, rfl⟩ := List.mem_map.1 hb
      rw [e2] at h1
      rw [e1] at h2
      exact ⟨c, hc, h1, h2⟩
    · rintro ⟨b, hb, h1, h2⟩
      exact ⟨g b, List.mem_map.2 ⟨b, hb, rfl⟩, by rw [e2]; exact h1, by rw [e1]; exact h2⟩
  simp only [hx]
/-- All lists of children are just what they must be. -/
def KidsAll (t : Tr) : Prop := ∀ p, (p = 0 ∨ ∃ b ∈ t.brs, b.id = p) → KidsAre t.brs (childs t p) p
theorem unit_pos {b : Br} (h : UnitOk b) : b.id ≠ 0 := by
  have := within_t.1 h.1
  omega
theorem childs_of {t : Tr} (h : idsAsc t.brs) {b : Br} (hb : b ∈ t.brs) (h0 : b.id ≠ 0) : childs t b.id = b.kids := by
  unfold childs
  rw [if_neg h0, find_byid h hb]
theorem sound_parts (t : Tr) : SoundM t ↔ CoreM t.brs ∧ KidsAll t := by
  constructor
  · intro h
    refine ⟨⟨h.len, h.asc, h.units, h.marks, h.placed, h.rank⟩, fun p hp => ?_⟩
    rcases hp with rfl | ⟨b, hb, rfl⟩
    · exact h.roots
    · rw [childs_of h.asc hb (unit_pos (h.units b hb))]
      exact h.kids b hb
  · rintro ⟨h, hk⟩
    refine ⟨h.len, h.asc, h.units, h.marks, h.placed, fun b hb => ?_, hk 0 (.inl rfl), h.rank⟩
    have := hk b.id (.inr ⟨b, hb, rfl⟩)
    rw [childs_of h.asc hb (unit_pos (h.units b hb))] at this
    exact this
def kidG (p : Int) (ks : List Int) (b : Br) : Br := if b.id = p then { b with kids := ks } else b
theorem kidG_core (p : Int) (ks : List Int) (b : Br) : core (kidG p ks b) = core b := by
  unfold kidG core
  split <;> rfl
theorem setK_brs (t : Tr) (p : Int) (ks : List Int) : (setK t p ks).brs = if p = 0 then t.brs else t.brs.map (kidG p ks) := by
  unfold setK kidG
  split <;> rfl
theorem setK_core {t : Tr} (p : Int) (ks : List Int) (h : CoreM t.brs) : CoreM (setK t p ks).brs := by
  rw [setK_brs]
  split
  · exact h
  · exact core_map _ (kidG_core p ks) h
theorem setK_kids (t : Tr) (p : Int) (ks : List Int) (qs : List Int) (q : Int) : KidsAre (setK t p ks).brs qs q ↔ KidsAre t.brs qs q := by
  rw [setK_brs]
  split
  · exact Iff.rfl
  · exact kids_map _ (kidG_core p ks) qs q
theorem find_map {l : List Br} (g : Br → Br) (hg : ∀ b, (g b).id = b.id) (n : Int) : brFind (l.map g) n = (brFind l n).map g := by
  unfold brFind
  rw [List.find?_map]
  congr 1
  congr 1
  funext b
  simp [hg]
theorem setK_childs {t : Tr} (p : Int) (ks : List Int) (q : Int) (hp : p = 0 ∨ ∃ b ∈ t.brs, b.id = p) : childs (setK t p ks) q = if q = p then ks else childs t q := by
  by_cases h0 : p = 0
  · subst h0
    unfold childs setK
    simp only [if_true]
    by_cases hq : q = 0 <;> simp [hq]
  · have hs : setK t p ks = ⟨t.roots, t.brs.map (kidG p ks)⟩ := by
      unfold setK kidG
      rw [if_neg h0]
    rw [hs]
    unfold childs
    by_cases hq : q = 0
    · subst hq
      rw [if_pos rfl, if_pos rfl, if_neg (fun e => h0 e.symm)]
    · simp only [if_neg hq]
      rw [find_map _ (fun b => (core_all (kidG_core p ks b)).1)]
      cases hf : brFind t.brs q with
      | none =>
        have hn := (find_none q).1 hf
        have hqp : q ≠ p := by
          rintro rfl
          rcases hp with h | ⟨b, hb, e⟩
          · exact h0 h
          · exact hn b hb e
        rw [if_neg hqp]
        rfl
      | some b =>
        have hb := find_in hf
        show (kidG p ks b).kids = _
        unfold kidG
        by_cases hqp : q = p
        · rw [if_pos hqp, if_pos (by rw [hb.2]; exact hqp)]
        · rw [if_neg hqp, if_neg (by rw [hb.2]; exact hqp)]
theorem setK_ids (t : Tr) (p : Int) (ks : List Int) (q : Int) : (∃ b ∈ (setK t p ks).brs, b.id = q) ↔ ∃ b ∈ t.brs, b.id = q := by
  rw [setK_brs]
  split
  · exact Iff.rfl
  · constructor
    · rintro ⟨b, hb, e⟩
      obtain ⟨c, hc, rfl⟩ := List.mem_map.1 hb
      exact ⟨c, hc, by rw [← e]; exact (core_all (kidG_core p ks c)).1.symm⟩
    · rintro ⟨b, hb, e⟩
      exact ⟨_, List.mem_map.2 ⟨b, hb, rfl⟩, by rw [← e]; exact (core_all (kidG_core p ks b)).1⟩
end Go.Proofs.YtafncfomiolmgaaGreatDoor

/- A unit that is created: the tree stays right but for its depth. No condition. -/
namespace Go.Proofs.YtafncfomiolmgaaGreatDoor
open Go.RowKit

theorem mem_insB (b x : Br) : ∀ l : List Br, x ∈ insB b l ↔ x = b ∨ x ∈ l
  | [] => by simp [insB]
  | y :: r => by
    unfold insB
    split
    · rw [List.mem_cons, mem_insB b x r, List.mem_cons]
      constructor
      · rintro (h | h | h)
        · exact .inr (.inl h)
        · exact .inl h
        · exact .inr (.inr h)
      · rintro (h | h | h)
        · exact .inr (.inl h)
        · exact .inl h
        · exact .inr (.inr h)
    · simp
theorem len_insB (b : Br) : ∀ l : List Br, (insB b l).length = l.length + 1
  | [] => rfl
  | y :: r => by
    unfold insB
    split
    · simp only [List.length_cons]; rw [len_insB b r]
    · rfl
theorem asc_insB (b : Br) : ∀ l : List Br, idsAsc l → (∀ c ∈ l, c.id ≠ b.id) → idsAsc (insB b l)
  | [], _, _ => by simp [insB, idsAsc]
  | y :: r, h, hn => by
    have h' := List.pairwise_cons.1 h
    unfold insB
    split
    · rename_i hy
      refine List.pairwise_cons.2 ⟨fun z hz => ?_, asc_insB b r h'.2 (fun c hc => hn c (List.mem_cons_of_mem _ hc))⟩
      rcases (mem_insB b z r).1 hz with rfl | hz
      · exact hy
      · exact h'.1 z hz
    · rename_i hy
      have hyb := hn y (List.mem_cons_self ..)
      refine List.pairwise_cons.2 ⟨fun z hz => ?_, h⟩
      rcases List.mem_cons.1 hz with rfl | hz
      · omega
      · have := h'.1 z hz; omega
theorem mem_putF {n before : Int} : ∀ {ks : List Int}, (before = 0 → (0 : Int) ∉ ks) → (before ≠ 0 → before ∈ ks) → ∀ x, x ∈ putF n before ks ↔ x = n ∨ x ∈ ks
  | [], _, h2, x => by
    unfold putF
    by_cases hb : before = 0
    · simp [hb]
    · have := h2 hb; cases this
  | y :: r, h1, h2, x => by
    unfold putF
    split
    · simp
    · rename_i hy
      have ih := mem_putF (n := n) (before := before) (ks := r) (fun h hm => h1 h (List.mem_cons_of_mem _ hm)) (fun h => by
        rcases List.mem_cons.1 (h2 h) with e | h
        · exact absurd e.symm hy
        · exact h) x
      rw [List.mem_cons, ih, List.mem_cons]
      constructor
      · rintro (h | h | h)
        · exact .inr (.inl h)
        · exact .inl h
        · exact .inr (.inr h)
      · rintro (h | h | h)
        · exact .inr (.inl h)
        · exact .inl h
        · exact .inr (.inr h)
theorem nodup_putF {n before : Int} : ∀ {ks : List Int}, (before = 0 → (0 : Int) ∉ ks) → (before ≠ 0 → before ∈ ks) → ks.Nodup → n ∉ ks → (putF n before ks).Nodup
  | [], _, _, _, _ => by unfold putF; split <;> simp
  | y :: r, h1, h2, h3, h4 => by
    have h3' := List.nodup_cons.1 h3
    rw [List.mem_cons, not_or] at h4
    unfold putF
    split
    · exact List.nodup_cons.2 ⟨by rw [List.mem_cons, not_or]; exact h4, h3⟩
    · rename_i hy
      have g1 : before = 0 → (0 : Int) ∉ r := fun h hm => h1 h (List.mem_cons_of_mem _ hm)
      have g2 : before ≠ 0 → before ∈ r := fun h => by
        rcases List.mem_cons.1 (h2 h) with e | h
        · exact absurd e.symm hy
        · exact h
      refine List.nodup_cons.2 ⟨fun hm => ?_, nodup_putF g1 g2 h3'.2 h4.2⟩
      rcases (mem_putF g1 g2 y).1 hm with e | hm
      · exact h4.1 e.symm
      · exact h3'.1 hm
/-- The place that a new unit gets is there, and fits. -/
def StandsT (l : List Br) (parent level : Int) : Prop := (parent = 0 ∧ level = 1) ∨ (parent ≠ 0 ∧ ∃ p ∈ l, p.id = parent ∧ fitsF p.level level = true)
theorem core_insB {l : List Br} (h : CoreM l) (b : Br) (hl : l.length < 256) (hn : ∀ c ∈ l, c.id ≠ b.id) (hu : UnitOk b) (hm : ∀ c ∈ l, b.mark.toList.isEmpty = false → c.mark.toList ≠ b.mark.toList) (hs : StandsT l b.parent b.level) : CoreM (insB b l) := by
  have hasc := asc_insB b l h.asc hn
  refine ⟨by rw [len_insB]; omega, hasc, ?_, ?_, ?_, ?_⟩
  · intro c hc
    rcases (mem_insB b c l).1 hc with rfl | hc
    · exact hu
    · exact h.units c hc
  · intro c hc d hd hne he
    rcases (mem_insB b c l).1 hc with hcb | hc1 <;> rcases (mem_insB _ d l).1 hd with hdb | hd1
    · rw [hcb, hdb]
    · exact absurd (by rw [← hcb]; exact he.symm) (hm d hd1 (by rw [← hcb]; exact hne))
    · exact absurd (by rw [← hdb]; exact he) (hm c hc1 (by rw [← hdb, ← he]; exact hne))
    · exact h.marks c hc1 d hd1 hne he
  · intro c hc
    rw [placed_mem hasc]
    have hst : ∀ p lv, StandsT l p lv → (p = 0 ∧ lv = 1) ∨ (p ≠ 0 ∧ ∃ q ∈ insB b l, q.id = p ∧ fitsF q.level lv = true) := by
      rintro p lv (h1 | ⟨h1, q, hq, h2, h3⟩)
      · exact .inl h1
      · exact .inr ⟨h1, q, (mem_insB b q l).2 (.inr hq), h2, h3⟩
    rcases (mem_insB b c l).1 hc with rfl | hc
    · exact hst _ _ hs
    · exact hst _ _ ((placed_mem h.asc c).1 (h.placed c hc))
  · obtain ⟨r, hr⟩ := h.rank
    have hup : ∀ c : Br, StandsT l c.parent c.level → c.parent ≠ 0 → c.parent ≠ b.id := by
      rintro c (⟨h1, _⟩ | ⟨_, q, hq, h2, _⟩) h0 e
      · exact h0 h1
      · exact hn q hq (by rw [h2]; exact e)
    refine ⟨fun x => if x = b.id then r b.parent + 1 else r x, fun c hc hp => ?_⟩
    rcases (mem_insB b c l).1 hc with rfl | hc
    · simp only [if_true]
      rw [if_neg (hup c hs hp)]
      omega
    · have h1 := hup c ((placed_mem h.asc c).1 (h.placed c hc)) hp
      simp only
      rw [if_neg h1, if_neg (hn c hc)]
      exact hr c hc hp
theorem childs_insB {t : Tr} (h : idsAsc t.brs) (b : Br) (hn : ∀ c ∈ t.brs, c.id ≠ b.id) (hb0 : b.id ≠ 0) (q : Int) : childs ⟨t.roots, insB b t.brs⟩ q = if q = b.id then b.kids else childs t q := by
  have hasc := asc_insB b t.brs h hn
  unfold childs
  by_cases hq : q = 0
  · subst hq
    rw [if_pos rfl, if_pos rfl, if_neg (fun e => hb0 e.symm)]
  · simp only [if_neg hq]
    by_cases hqb : q = b.id
    · subst hqb
      rw [if_pos rfl, find_byid hasc ((mem_insB b b t.brs).2 (.inl rfl))]
    · rw [if_neg hqb]
      cases hf : brFind t.brs q with
      | some c =>
        have hc := find_in hf
        rw [(find_iff hasc q c).2 ⟨(mem_insB b c t.brs).2 (.inr hc.1), hc.2⟩]
      | none =>
        rw [(find_none q).2 (fun c hc => by
          rcases (mem_insB b c t.brs).1 hc with rfl | hc
          · exact fun e => hqb e.symm
          · exact (find_none q).1 hf c hc)]
theorem kids_insB {l : List Br} (b : Br) (ks : List Int) (p : Int) (hn : ∀ c ∈ l, c.id ≠ b.id) : KidsAre (insB b l) ks p ↔ (if b.parent = p then ks.Nodup ∧ ∀ x, x ∈ ks ↔ x = b.id ∨ ∃ c ∈ l, c.parent = p ∧ c.id = x else KidsAre l ks p) := by
  unfold KidsAre
  have hx : ∀ x, (∃ c ∈ insB b l, c.parent = p ∧ c.id = x) ↔ (b.parent = p ∧ x = b.id) ∨ ∃ c ∈ l, c.parent = p ∧ c.id = x := by
    intro x
    constructor
    · rintro ⟨c, hc, h1, h2⟩
      rcases (mem_insB b c l).1 hc with rfl | hc
      · exact .inl ⟨h1, h2.symm⟩
      · exact .inr ⟨c, hc, h1, h2⟩
    · rintro (⟨h1, rfl⟩ | ⟨c, hc, h1, h2⟩)
      · exact ⟨b, (mem_insB b b l).2 (.inl rfl), h1, rfl⟩
      · exact ⟨c, (mem_insB b c l).2 (.inr hc), h1, h2⟩
  simp only [hx]
  by_cases hp : b.parent = p <;> simp [hp]
/-- A unit that may be created. -/
structure CanCreate (t : Tr) (o : Opn) : Prop where
  new : ∀ c ∈ t.brs, c.id ≠ o.unit
  unit : UnitOk ⟨o.unit, o.parent, o.level, o.title, o.mark, []⟩
  stands : StandsT t.brs o.parent o.level
  before : o.before ≠ 0 → o.before ∈ childs t o.parent
  mark : ∀ c ∈ t.brs, o.mark.toList.isEmpty = false → c.mark.toList ≠ o.mark.toList
  room : t.brs.length < 256
theorem create_sound {t : Tr} {o : Opn} (h : SoundM t) (hc : CanCreate t o) : SoundM (createT t o) := by
  obtain ⟨hC, hK⟩ := (sound_parts t).1 h
  have hu0 : o.unit ≠ 0 := unit_pos hc.unit
  have hp : o.parent = 0 ∨ ∃ b ∈ t.brs, b.id = o.parent := by
    rcases hc.stands with ⟨h1, _⟩ | ⟨_, q, hq, h2, _⟩
    · exact .inl h1
    · exact .inr ⟨q, hq, h2⟩
  have hKp := hK o.parent hp
  have h00 : (0 : Int) ∉ childs t o.parent := fun hm => by
    obtain ⟨b, hb, _, e⟩ := (hKp.2 0).1 hm
    exact unit_pos (hC.units b hb) e
  have hun : o.unit ∉ childs t o.parent := fun hm => by
    obtain ⟨b, hb, _, e⟩ := (hKp.2 o.unit).1 hm
    exact hc.new b hb e
  have hpu : o.parent ≠ o.unit := fun e => by
    rcases hp with h1 | ⟨b, hb, e2⟩
    · exact hu0 (by rw [← e]; exact h1)
    · exact hc.new b hb (by rw [e2]; exact e)
  have hT := setK_core o.parent (putF o.unit o.before (childs t o.parent)) hC
  have hids := setK_ids t o.parent (putF o.unit o.before (childs t o.parent))
  have hch := setK_childs (t := t) o.parent (putF o.unit o.before (childs t o.parent))
  have hkd := setK_kids t o.parent (putF o.unit o.before (childs t o.parent))
  have hmem : ∀ c ∈ (setK t o.parent (putF o.unit o.before (childs t o.parent))).brs, ∃ d ∈ t.brs, core c = core d := by
    intro c hcm
    rw [setK_brs] at hcm
    split at hcm
    · exact ⟨c, hcm, rfl⟩
    · obtain ⟨d, hd, rfl⟩ := List.mem_map.1 hcm
      exact ⟨d, hd, kidG_core _ _ d⟩
  have hmem2 : ∀ d ∈ t.brs, ∃ c ∈ (setK t o.parent (putF o.unit o.before (childs t o.parent))).brs, core c = core d := by
    intro d hd
    rw [setK_brs]
    split
    · exact ⟨d, hd, rfl⟩
    · exact ⟨_, List.mem_map.2 ⟨d, hd, rfl⟩, kidG_core _ _ d⟩
  have hlen : (setK t o.parent (putF o.unit o.before (childs t o.parent))).brs.length = t.brs.length := by
    rw [setK_brs]
    split
    · rfl
    · rw [List.length_map]
  unfold createT
  generalize setK t o.parent (putF o.unit o.before (childs t o.parent)) = t1 at hT hids hch hkd hmem hmem2 hlen ⊢
  have hn1 : ∀ c ∈ t1.brs, c.id ≠ o.unit := fun c hcm e => by
    obtain ⟨d, hd, he⟩ := hmem c hcm
    exact hc.new d hd (by rw [← (core_all he).1]; exact e)
  rw [sound_parts]
  refine ⟨core_insB hT _ (by rw [hlen]; exact hc.room) hn1 hc.unit (fun c hcm hne => ?_) ?_, fun q hq => ?_⟩
  · obtain ⟨d, hd, he⟩ := hmem c hcm
    rw [(core_all he).2.2.2.2]
    exact hc.mark d hd hne
  · rcases hc.stands with h1 | ⟨h1, p, hpm, h2, h3⟩
    · exact .inl h1
    · obtain ⟨c, hcm, he⟩ := hmem2 p hpm
      exact .inr ⟨h1, c, hcm, by rw [(core_all he).1]; exact h2, by rw [(core_all he).2.2.1]; exact h3⟩
  · rw [childs_insB hT.asc _ hn1 hu0, kids_insB _ _ _ hn1]
    by_cases hqu : q = o.unit
    · rw [if_pos hqu, if_neg (by rw [hqu]; exact hpu)]
      refine ⟨by simp, fun x => ⟨(fun hx => by cases hx), ?_⟩⟩
      rintro ⟨c, hcm, h1, _⟩
      exfalso
      have hpl := (placed_mem hT.asc c).1 (hT.placed c hcm)
      rcases hpl with ⟨h2, _⟩ | ⟨_, p, hpm, h2, _⟩
      · exact hu0 (by rw [← hqu, ← h1]; exact h2)
      · exact hn1 p hpm (by rw [h2, h1]; exact hqu)
    · rw [if_neg hqu, hch q hp]
      by_cases hqp : o.parent = q
      · subst hqp
        rw [if_pos rfl, if_pos rfl]
        refine ⟨nodup_putF (fun _ => h00) hc.before hKp.1 hun, fun x => ?_⟩
        rw [mem_putF (fun _ => h00) hc.before, ← ((hkd (childs t o.parent) o.parent).2 hKp).2 x]
      · rw [if_neg hqp, if_neg (fun e => hqp e.symm)]
        refine (hkd _ _).2 (hK q ?_)
        rcases hq with h1 | ⟨b, hb, e⟩
        · exact .inl h1
        · rcases (mem_insB _ b t1.brs).1 hb with rfl | hb
          · exact absurd e.symm hqu
          · exact .inr ((hids q).1 ⟨b, hb, e⟩)
end Go.Proofs.YtafncfomiolmgaaGreatDoor

/- A unit that is removed, moved or named anew: the tree stays right but for its depth. No condition. -/
namespace Go.Proofs.YtafncfomiolmgaaGreatDoor
open Go.RowKit

theorem mem_without (n x : Int) (l : List Int) : x ∈ withoutF n l ↔ x ∈ l ∧ x ≠ n := by
  unfold withoutF
  simp
theorem nodup_without (n : Int) {l : List Int} (h : l.Nodup) : (withoutF n l).Nodup := List.Pairwise.filter _ h
/-- The list of children without one: of every parent but its own it is the list itself. -/
theorem kids_without {t : Tr} (h : SoundM t) {u : Br} (hu : u ∈ t.brs) (q : Int) (hq : q = 0 ∨ ∃ b ∈ t.brs, b.id = q) : ∀ x, x ∈ childs (setK t u.parent (withoutF u.id (childs t u.parent))) q ↔ x ∈ childs t q ∧ x ≠ u.id := by
  obtain ⟨hC, hK⟩ := (sound_parts t).1 h
  have hp : u.parent = 0 ∨ ∃ b ∈ t.brs, b.id = u.parent := by
    rcases (placed_mem hC.asc u).1 (hC.placed u hu) with ⟨h1, _⟩ | ⟨_, p, hpm, h2, _⟩
    · exact .inl h1
    · exact .inr ⟨p, hpm, h2⟩
  intro x
  rw [setK_childs _ _ q hp]
  by_cases hqp : q = u.parent
  · rw [if_pos hqp, mem_without, hqp]
  · rw [if_neg hqp]
    refine ⟨fun hx => ⟨hx, fun e => ?_⟩, fun hx => hx.1⟩
    obtain ⟨b, hb, h1, h2⟩ := ((hK q hq).2 x).1 hx
    have := asc_same hC.asc hb hu (by rw [h2]; exact e)
    subst this
    exact hqp h1.symm
theorem nodup_kids {t : Tr} (h : SoundM t) {u : Br} (hu : u ∈ t.brs) (q : Int) (hq : q = 0 ∨ ∃ b ∈ t.brs, b.id = q) : (childs (setK t u.parent (withoutF u.id (childs t u.parent))) q).Nodup := by
  obtain ⟨hC, hK⟩ := (sound_parts t).1 h
  have hp : u.parent = 0 ∨ ∃ b ∈ t.brs, b.id = u.parent := by
    rcases (placed_mem hC.asc u).1 (hC.placed u hu) with ⟨h1, _⟩ | ⟨_, p, hpm, h2, _⟩
    · exact .inl h1
    · exact .inr ⟨p, hpm, h2⟩
  rw [setK_childs _ _ q hp]
  by_cases hqp : q = u.parent
  · rw [if_pos hqp]
    exact nodup_without _ (hK _ hp).1
  · rw [if_neg hqp]
    exact (hK q hq).1
theorem remove_sound {t : Tr} {o : Opn} {u : Br} (h : SoundM t) (hu : u ∈ t.brs) (hid : u.id = o.unit) (hk : u.kids = []) : SoundM (removeT t o u) := by
  obtain ⟨hC, hK⟩ := (sound_parts t).1 h
  have hu0 : u.id ≠ 0 := unit_pos (hC.units u hu)
  have hw := kids_without h hu
  have hnd := nodup_kids h hu
  have hT := setK_core u.parent (withoutF u.id (childs t u.parent)) hC
  have hids := setK_ids t u.parent (withoutF u.id (childs t u.parent))
  have hkd := setK_kids t u.parent (withoutF u.id (childs t u.parent))
  have hno : ∀ x, ¬ ∃ c ∈ (setK t u.parent (withoutF u.id (childs t u.parent))).brs, c.parent = u.id ∧ c.id = x := by
    have hku := hK u.id (.inr ⟨u, hu, rfl⟩)
    rw [childs_of hC.asc hu hu0, hk] at hku
    have h2 := (hkd [] u.id).2 hku
    intro x hx
    have := (h2.2 x).2 hx
    cases this
  unfold removeT
  rw [← hid]
  generalize setK t u.parent (withoutF u.id (childs t u.parent)) = t1 at hw hnd hT hids hkd hno ⊢
  have hfil : ∀ c, c ∈ t1.brs.filter (fun b => !(b.id == u.id)) ↔ c ∈ t1.brs ∧ c.id ≠ u.id := fun c => by simp
  have hasc : idsAsc (t1.brs.filter fun b => !(b.id == u.id)) := List.Pairwise.filter _ hT.asc
  have hpar : ∀ c ∈ t1.brs, c.parent ≠ u.id := fun c hc e => hno c.id ⟨c, hc, e, rfl⟩
  rw [sound_parts]
  refine ⟨⟨Nat.le_trans (List.length_filter_le _ _) hT.len, hasc, fun c hc => hT.units c ((hfil c).1 hc).1, fun c hc d hd => hT.marks c ((hfil c).1 hc).1 d ((hfil d).1 hd).1, fun c hc => ?_, ?_⟩, fun q hq => ?_⟩
  · have hc1 := (hfil c).1 hc
    rw [placed_mem hasc]
    rcases (placed_mem hT.asc c).1 (hT.placed c hc1.1) with h1 | ⟨h1, p, hp, h2, h3⟩
    · exact .inl h1
    · exact .inr ⟨h1, p, (hfil p).2 ⟨hp, by rw [h2]; exact hpar c hc1.1⟩, h2, h3⟩
  · obtain ⟨r, hr⟩ := hT.rank
    exact ⟨r, fun c hc => hr c ((hfil c).1 hc).1⟩
  · have hqu : q ≠ u.id := by
      rcases hq with h1 | ⟨c, hc, e⟩
      · rw [h1]; exact fun e => hu0 e.symm
      · rw [← e]; exact ((hfil c).1 hc).2
    have hq1 : q = 0 ∨ ∃ b ∈ t.brs, b.id = q := by
      rcases hq with h1 | ⟨c, hc, e⟩
      · exact .inl h1
      · exact .inr ((hids q).1 ⟨c, ((hfil c).1 hc).1, e⟩)
    have hch : childs ⟨t1.roots, t1.brs.filter fun b => !(b.id == u.id)⟩ q = childs t1 q := by
      unfold childs
      split
      · rfl
      · show (match brFind (t1.brs.filter fun b => !(b.id == u.id)) q with
          | none => []
          | some b => b.kids) = _
        cases hf : brFind t1.brs q with
        | none => rw [(find_none q).2 (fun c hc => (find_none q).1 hf c ((hfil c).1 hc).1)]
        | some b =>
          have hb := find_in hf
          rw [(find_iff hasc q b).2 ⟨(hfil b).2 ⟨hb.1, by rw [hb.2]; exact hqu⟩, hb.2⟩]
    rw [hch]
    refine ⟨hnd q hq1, fun x => ?_⟩
    rw [hw q hq1, ((hkd _ q).2 (hK q hq1)).2 x]
    constructor
    · rintro ⟨⟨c, hc, h1, h2⟩, hx⟩
      exact ⟨c, (hfil c).2 ⟨hc, by rw [h2]; exact hx⟩, h1, h2⟩
    · rintro ⟨c, hc, h1, h2⟩
      have hc1 := (hfil c).1 hc
      exact ⟨⟨c, hc1.1, h1, h2⟩, by rw [← h2]; exact hc1.2⟩
/-- Other names of a unit. -/
theorem label_sound {t : Tr} (h : SoundM t) (n : Int) (f : Br → Br) (hf : ∀ b, (f b).id = b.id ∧ (f b).parent = b.parent ∧ (f b).level = b.level ∧ (f b).kids = b.kids) (hu : ∀ b ∈ t.brs, b.id = n → UnitOk (f b))
    (hm : ∀ b ∈ t.brs, b.id = n → ∀ c ∈ t.brs, c.id ≠ n → (f b).mark.toList.isEmpty = false → (f b).mark.toList ≠ c.mark.toList) : SoundM (setU t n f) := by
  obtain ⟨hC, hK⟩ := (sound_parts t).1 h
  have e1 : ∀ b, (if b.id = n then f b else b).id = b.id := fun b => by split <;> simp [hf]
  have e2 : ∀ b, (if b.id = n then f b else b).parent = b.parent := fun b => by split <;> simp [hf]
  have e3 : ∀ b, (if b.id = n then f b else b).level = b.level := fun b => by split <;> simp [hf]
  have e4 : ∀ b, (if b.id = n then f b else b).kids = b.kids := fun b => by split <;> simp [hf]
  have hasc : idsAsc (t.brs.map fun b => if b.id = n then f b else b) := List.Pairwise.map _ (fun a b hab => by rw [e1, e1]; exact hab) hC.asc
  rw [sound_parts]
  unfold setU
  refine ⟨⟨by rw [List.length_map]; exact hC.len, hasc, fun c hc => ?_, fun c hc d hd hne he => ?_, fun c hc => ?_, ?_⟩, fun q hq => ?_⟩
  · obtain ⟨b, hb, rfl⟩ := List.mem_map.1 hc
    by_cases hbn : b.id = n
    · rw [if_pos hbn]; exact hu b hb hbn
    · rw [if_neg hbn]; exact hC.units b hb
  · obtain ⟨b, hb, rfl⟩ := List.mem_map.1 hc
    obtain ⟨b2, hb2, rfl⟩ := List.mem_map.1 hd
    rw [e1, e1]
    by_cases hbn : b.id = n <;> by_cases hbn2 : b2.id = n
    · rw [hbn, hbn2]
    · rw [if_pos hbn] at hne he
      rw [if_neg hbn2] at he
      exact absurd he (hm b hb hbn b2 hb2 hbn2 hne)
    · rw [if_neg hbn] at hne he
      rw [if_pos hbn2] at he
      exact absurd he.symm (hm b2 hb2 hbn2 b hb hbn (by rw [← he]; exact hne))
    · rw [if_neg hbn] at hne he
      rw [if_neg hbn2] at he
      exact hC.marks b hb b2 hb2 hne he
  · obtain ⟨b, hb, rfl⟩ := List.mem_map.1 hc
    rw [placed_mem hasc, e2, e3]
    rcases (placed_mem hC.asc b).1 (hC.placed b hb) with h1 | ⟨h1, p, hp, h2, h3⟩
    · exact .inl h1
    · exact .inr ⟨h1, _, List.mem_map.2 ⟨p, hp, rfl⟩, by rw [e1]; exact h2, by rw [e3]; exact h3⟩
  · obtain ⟨r, hr⟩ := hC.rank
    refine ⟨r, fun c hc => ?_⟩
    obtain ⟨b, hb, rfl⟩ := List.mem_map.1 hc
    rw [e1, e2]
    exact hr b hb
  · have hq1 : q = 0 ∨ ∃ b ∈ t.brs, b.id = q := by
      rcases hq with h1 | ⟨c, hc, e⟩
      · exact .inl h1
      · obtain ⟨b, hb, rfl⟩ := List.mem_map.1 hc
        exact .inr ⟨b, hb, by rw [← e, e1]⟩
    have hch : childs ⟨t.roots, t.brs.map fun b => if b.id = n then f b else b⟩ q = childs t q := by
      unfold childs
      split
      · rfl
      · show (match brFind (t.brs.map fun b => if b.id = n then f b else b) q with
          | none => []
          | some b => b.kids) = _
        rw [find_map _ e1]
        cases brFind t.brs q with
        | none => rfl
        | some b => exact e4 b
    rw [hch]
    refine ⟨(hK q hq1).1, fun x => ?_⟩
    rw [(hK q hq1).2 x]
    constructor
    · rintro ⟨c, hc, h1, h2⟩
      exact ⟨_, List.mem_map.2 ⟨c, hc, rfl⟩, by rw [e2]; exact h1, by rw [e1]; exact h2⟩
    · rintro ⟨c, hc, h1, h2⟩
      obtain ⟨b, hb, rfl⟩ := List.mem_map.1 hc
      exact ⟨b, hb, by rw [← h1, e2], by rw [← h2, e1]⟩
end Go.Proofs.YtafncfomiolmgaaGreatDoor

/- A unit that is moved: the tree stays right but for its depth. No condition. -/
namespace Go.Proofs.YtafncfomiolmgaaGreatDoor
open Go.RowKit

/-- A unit that is the given one, or below it. -/
inductive UnderT (l : List Br) (n : Int) : Int → Prop
  | self : UnderT l n n
  | step {b : Br} : b ∈ l → b.parent ≠ 0 → UnderT l n b.parent → UnderT l n b.id
theorem under_parent {l : List Br} (h : idsAsc l) {n : Int} {b : Br} (hb : b ∈ l) (hne : b.id ≠ n) (hu : UnderT l n b.id) : b.parent ≠ 0 ∧ UnderT l n b.parent := by
  generalize hx : b.id = x at hu
  cases hu with
  | self => exact absurd hx hne
  | @step c hc hp hu =>
    have := asc_same h hb hc hx
    subst this
    exact ⟨hp, hu⟩
/-- A unit that may be moved. -/
structure CanMove (t : Tr) (o : Opn) (u : Br) : Prop where
  mem : u ∈ t.brs
  id : u.id = o.unit
  stands : StandsT t.brs o.parent u.level
  notBelow : ¬ UnderT t.brs o.unit o.parent
  before : o.before ≠ 0 → o.before ∈ withoutF o.unit (childs t o.parent)
theorem without_no {n : Int} {l : List Int} (h : n ∉ l) : withoutF n l = l := by
  unfold withoutF
  rw [List.filter_eq_self]
  intro x hx
  simp
  rintro rfl
  exact h hx
/-- Behind taking a unit out, the list of children of each parent is the old one without it. -/
theorem childs_taken {t : Tr} (h : SoundM t) {u : Br} (hu : u ∈ t.brs) (q : Int) (hq : q = 0 ∨ ∃ b ∈ t.brs, b.id = q) : childs (setK t u.parent (withoutF u.id (childs t u.parent))) q = withoutF u.id (childs t q) := by
  obtain ⟨hC, hK⟩ := (sound_parts t).1 h
  have hp : u.parent = 0 ∨ ∃ b ∈ t.brs, b.id = u.parent := by
    rcases (placed_mem hC.asc u).1 (hC.placed u hu) with ⟨h1, _⟩ | ⟨_, p, hpm, h2, _⟩
    · exact .inl h1
    · exact .inr ⟨p, hpm, h2⟩
  rw [setK_childs _ _ q hp]
  by_cases hqp : q = u.parent
  · rw [if_pos hqp, hqp]
  · rw [if_neg hqp, without_no]
    intro hm
    obtain ⟨b, hb, h1, h2⟩ := ((hK q hq).2 u.id).1 hm
    have := asc_same hC.asc hb hu h2
    subst this
    exact hqp h1.symm
theorem move_sound {t : Tr} {o : Opn} {u : Br} (h : SoundM t) (hc : CanMove t o u) : SoundM (moveT t o u) := by
  obtain ⟨hC, hK⟩ := (sound_parts t).1 h
  have hu := hc.mem
  have hu0 : u.id ≠ 0 := unit_pos (hC.units u hu)
  have hp : o.parent = 0 ∨ ∃ b ∈ t.brs, b.id = o.parent := by
    rcases hc.stands with ⟨h1, _⟩ | ⟨_, q, hq, h2, _⟩
    · exact .inl h1
    · exact .inr ⟨q, hq, h2⟩
  have htk := childs_taken h hu
  have hT1 := setK_core u.parent (withoutF u.id (childs t u.parent)) hC
  have hids1 := setK_ids t u.parent (withoutF u.id (childs t u.parent))
  have hkd1 := setK_kids t u.parent (withoutF u.id (childs t u.parent))
  have hbr1 := setK_brs t u.parent (withoutF u.id (childs t u.parent))
  unfold moveT
  rw [← hc.id]
  generalize setK t u.parent (withoutF u.id (childs t u.parent)) = t1 at htk hT1 hids1 hkd1 hbr1 ⊢
  have hp1 : o.parent = 0 ∨ ∃ b ∈ t1.brs, b.id = o.parent := by
    rcases hp with h1 | h1
    · exact .inl h1
    · exact .inr ((hids1 _).2 h1)
  have hT2 := setK_core o.parent (putF u.id o.before (childs t1 o.parent)) hT1
  have hids2 := setK_ids t1 o.parent (putF u.id o.before (childs t1 o.parent))
  have hkd2 := setK_kids t1 o.parent (putF u.id o.before (childs t1 o.parent))
  have hch2 := fun q => setK_childs (t := t1) o.parent (putF u.id o.before (childs t1 o.parent)) q hp1
  have hbr2 := setK_brs t1 o.parent (putF u.id o.before (childs t1 o.parent))
  simp only
  generalize setK t1 o.parent (putF u.id o.before (childs t1 o.parent)) = t2 at hT2 hids2 hkd2 hch2 hbr2 ⊢
  -- the units of the three trees are the same but for their children
  have hm12 : ∀ (l : List Br) (p : Int) (ks : List Int) (m : List Br), m = (if p = 0 then l else l.map (kidG p ks)) → (∀ c ∈ m, ∃ d ∈ l, core c = core d) ∧ ∀ d ∈ l, ∃ c ∈ m, core c = core d := by
    rintro l p ks m rfl
    split
    · exact ⟨fun c hc => ⟨c, hc, rfl⟩, fun d hd => ⟨d, hd, rfl⟩⟩
    · refine ⟨fun c hc => ?_, fun d hd => ⟨_, List.mem_map.2 ⟨d, hd, rfl⟩, kidG_core _ _ d⟩⟩
      obtain ⟨d, hd, rfl⟩ := List.mem_map.1 hc
      exact ⟨d, hd, kidG_core _ _ d⟩
  have hm1 := hm12 _ _ _ _ hbr1
  have hm2 := hm12 _ _ _ _ hbr2
  have down : ∀ c ∈ t2.brs, ∃ d ∈ t.brs, core c = core d := fun c hcm => by
    obtain ⟨d, hd, e⟩ := hm2.1 c hcm
    obtain ⟨d2, hd2, e2⟩ := hm1.1 d hd
    exact ⟨d2, hd2, e.trans e2⟩
  have up : ∀ d ∈ t.brs, ∃ c ∈ t2.brs, core c = core d := fun d hd => by
    obtain ⟨c, hcm, e⟩ := hm1.2 d hd
    obtain ⟨c2, hc2, e2⟩ := hm2.2 c hcm
    exact ⟨c2, hc2, e2.trans e⟩
  clear hm12 hbr1 hbr2
  have e1 : ∀ b : Br, (if b.id = u.id then { b with parent := o.parent } else b).id = b.id := fun b => by split <;> rfl
  have e3 : ∀ b : Br, (if b.id = u.id then { b with parent := o.parent } else b).level = b.level := fun b => by split <;> rfl
  have e4 : ∀ b : Br, (if b.id = u.id then { b with parent := o.parent } else b).kids = b.kids := fun b => by split <;> rfl
  have e5 : ∀ b : Br, (if b.id = u.id then { b with parent := o.parent } else b).title = b.title := fun b => by split <;> rfl
  have e6 : ∀ b : Br, (if b.id = u.id then { b with parent := o.parent } else b).mark = b.mark := fun b => by split <;> rfl
  have hasc : idsAsc (t2.brs.map fun b => if b.id = u.id then { b with parent := o.parent } else b) := List.Pairwise.map _ (fun a b hab => by rw [e1, e1]; exact hab) hT2.asc
  rw [sound_parts]
  unfold setU
  refine ⟨⟨by rw [List.length_map]; exact hT2.len, hasc, fun c hcm => ?_, fun c hcm d hdm hne he => ?_, fun c hcm => ?_, ?_⟩, fun q hq => ?_⟩
  · obtain ⟨b, hb, rfl⟩ := List.mem_map.1 hcm
    have := hT2.units b hb
    unfold UnitOk at this ⊢
    rw [e1, e3, e5, e6]
    exact this
  · obtain ⟨b, hb, rfl⟩ := List.mem_map.1 hcm
    obtain ⟨b2, hb2, rfl⟩ := List.mem_map.1 hdm
    rw [e6] at hne he
    rw [e6] at he
    rw [e1, e1]
    exact hT2.marks b hb b2 hb2 hne he
  · obtain ⟨b, hb, rfl⟩ := List.mem_map.1 hcm
    rw [placed_mem hasc, e3]
    have hst : ∀ p lv, StandsT t2.brs p lv → (p = 0 ∧ lv = 1) ∨ (p ≠ 0 ∧ ∃ q ∈ t2.brs.map (fun b => if b.id = u.id then { b with parent := o.parent } else b), q.id = p ∧ fitsF q.level lv = true) := by
      rintro p lv (h1 | ⟨h1, q, hq, h2, h3⟩)
      · exact .inl h1
      · exact .inr ⟨h1, _, List.mem_map.2 ⟨q, hq, rfl⟩, by rw [e1]; exact h2, by rw [e3]; exact h3⟩
    by_cases hbu : b.id = u.id
    · rw [if_pos hbu]
      refine hst _ _ ?_
      have hl : b.level = u.level := by
        obtain ⟨d, hd, e⟩ := down b hb
        have := asc_same hC.asc hd hu (by rw [← (core_all e).1]; exact hbu)
        rw [(core_all e).2.2.1, this]
      rw [hl]
      rcases hc.stands with h1 | ⟨h1, q, hq, h2, h3⟩
      · exact .inl h1
      · obtain ⟨c, hcm2, e⟩ := up q hq
        exact .inr ⟨h1, c, hcm2, by rw [(core_all e).1]; exact h2, by rw [(core_all e).2.2.1]; exact h3⟩
    · rw [if_neg hbu]
      exact hst _ _ ((placed_mem hT2.asc b).1 (hT2.placed b hb))
  · obtain ⟨r, hr⟩ := hC.rank
    classical
    refine ⟨fun x => if UnderT t.brs u.id x then r x + (r o.parent + 1) else r x, fun c hcm hpn => ?_⟩
    obtain ⟨b, hb, rfl⟩ := List.mem_map.1 hcm
    obtain ⟨d, hd, e⟩ := down b hb
    have hid := (core_all e).1
    have hpar := (core_all e).2.1
    rw [e1]
    by_cases hbu : b.id = u.id
    · rw [if_pos hbu] at hpn ⊢
      simp only
      rw [hbu, if_neg (by rw [hc.id]; exact hc.notBelow), if_pos UnderT.self]
      omega
    · rw [if_neg hbu] at hpn ⊢
      have hlt := hr d hd (by rw [← hpar]; exact hpn)
      rw [← hpar, ← hid] at hlt
      have hiff : UnderT t.brs u.id b.id ↔ UnderT t.brs u.id b.parent := by
        rw [hid, hpar]
        constructor
        · exact fun hx => (under_parent hC.asc hd (by rw [← hid]; exact hbu) hx).2
        · exact fun hx => UnderT.step hd (by rw [← hpar]; exact hpn) hx
      simp only
      by_cases hx : UnderT t.brs u.id b.parent
      · rw [if_pos hx, if_pos (hiff.2 hx)]
        omega
      · rw [if_neg hx, if_neg (fun h => hx (hiff.1 h))]
        exact hlt
  · have hq1 : q = 0 ∨ ∃ b ∈ t.brs, b.id = q := by
      rcases hq with h1 | ⟨c, hcm, e⟩
      · exact .inl h1
      · obtain ⟨b, hb, rfl⟩ := List.mem_map.1 hcm
        obtain ⟨d, hd, e2⟩ := down b hb
        exact .inr ⟨d, hd, by rw [← (core_all e2).1, ← e, e1]⟩
    have hch : childs ⟨t2.roots, t2.brs.map fun b => if b.id = u.id then { b with parent := o.parent } else b⟩ q = childs t2 q := by
      unfold childs
      split
      · rfl
      · show (match brFind (t2.brs.map fun b => if b.id = u.id then { b with parent := o.parent } else b) q with
          | none => []
          | some b => b.kids) = _
        rw [find_map _ e1]
        cases brFind t2.brs q with
        | none => rfl
        | some b => exact e4 b
    have hKq := hK q hq1
    have hset : ∀ x, (∃ c ∈ t2.brs.map (fun b => if b.id = u.id then { b with parent := o.parent } else b), c.parent = q ∧ c.id = x) ↔ (x = u.id ∧ o.parent = q) ∨ (x ≠ u.id ∧ x ∈ childs t q) := by
      intro x
      rw [hKq.2 x]
      constructor
      · rintro ⟨c, hcm, h1, h2⟩
        obtain ⟨b, hb, rfl⟩ := List.mem_map.1 hcm
        rw [e1] at h2
        by_cases hbu : b.id = u.id
        · rw [if_pos hbu] at h1
          exact .inl ⟨by rw [← h2]; exact hbu, h1⟩
        · rw [if_neg hbu] at h1
          obtain ⟨d, hd, e⟩ := down b hb
          exact .inr ⟨by rw [← h2]; exact hbu, d, hd, by rw [← (core_all e).2.1]; exact h1, by rw [← (core_all e).1]; exact h2⟩
      · rintro (⟨h1, h2⟩ | ⟨h1, d, hd, h2, h3⟩)
        · obtain ⟨c, hcm, e⟩ := up u hu
          refine ⟨_, List.mem_map.2 ⟨c, hcm, rfl⟩, ?_, by rw [e1, (core_all e).1]; exact h1.symm⟩
          rw [if_pos (core_all e).1]
          exact h2
        · obtain ⟨c, hcm, e⟩ := up d hd
          have hcu : c.id ≠ u.id := by rw [(core_all e).1, h3]; exact h1
          refine ⟨_, List.mem_map.2 ⟨c, hcm, rfl⟩, ?_, by rw [e1, (core_all e).1]; exact h3⟩
          rw [if_neg hcu, (core_all e).2.1]
          exact h2
    have h00 : (0 : Int) ∉ childs t1 o.parent := fun hm => by
      rw [htk o.parent hp, mem_without] at hm
      obtain ⟨b, hb, _, e⟩ := ((hK _ hp).2 0).1 hm.1
      exact unit_pos (hC.units b hb) e
    have hbf : o.before ≠ 0 → o.before ∈ childs t1 o.parent := fun hb => by
      rw [htk o.parent hp, hc.id]
      exact hc.before hb
    have hnu : u.id ∉ childs t1 o.parent := fun hm => by
      rw [htk o.parent hp, mem_without] at hm
      exact hm.2 rfl
    have hnd1 : (childs t1 o.parent).Nodup := by
      rw [htk o.parent hp]
      exact nodup_without _ (hK _ hp).1
    rw [hch, hch2 q]
    unfold KidsAre
    simp only [hset]
    by_cases hqp : q = o.parent
    · rw [if_pos hqp]
      refine ⟨nodup_putF (fun _ => h00) hbf hnd1 hnu, fun x => ?_⟩
      rw [mem_putF (fun _ => h00) hbf, htk o.parent hp, mem_without, ← hqp]
      constructor
      · rintro (h1 | ⟨h1, h2⟩)
        · exact .inl ⟨h1, rfl⟩
        · exact .inr ⟨h2, h1⟩
      · rintro (⟨h1, _⟩ | ⟨h1, h2⟩)
        · exact .inl h1
        · exact .inr ⟨h2, h1⟩
    · rw [if_neg hqp, htk q hq1]
      refine ⟨nodup_without _ hKq.1, fun x => ?_⟩
      rw [mem_without]
      constructor
      · rintro ⟨h1, h2⟩
        exact .inr ⟨h2, h1⟩
      · rintro (⟨_, h2⟩ | ⟨h1, h2⟩)
        · exact absurd h2.symm hqp
        · exact ⟨h2, h1⟩
end Go.Proofs.YtafncfomiolmgaaGreatDoor

/- A unit and all that are below it, in order: just the units under it. No condition. -/
namespace Go.Proofs.YtafncfomiolmgaaGreatDoor
open Go.RowKit

/-- A unit and all that are below it, in order, so many steps down. -/
def belowL (t : Tr) : Nat → Int → List Int
  | 0, n => [n]
  | f + 1, n => n :: (childs t n).flatMap (belowL t f)
/-- A unit and all that are below it, in order; all units for 0. -/
def belowT (t : Tr) (n : Int) : List Int := if n = 0 then t.roots.flatMap (belowL t t.brs.length) else belowL t t.brs.length n
theorem under_trans {l : List Br} {a b c : Int} (h1 : UnderT l a b) (h2 : UnderT l b c) : UnderT l a c := by
  induction h2 with
  | self => exact h1
  | step hb hp _ ih => exact UnderT.step hb hp ih
theorem childs_mem {t : Tr} (h : SoundM t) {n x : Int} (hn : n = 0 ∨ ∃ b ∈ t.brs, b.id = n) : x ∈ childs t n ↔ ∃ c ∈ t.brs, c.parent = n ∧ c.id = x :=
  ((sound_parts t).1 h |>.2 n hn).2 x
theorem under_first {t : Tr} (h : SoundM t) {n x : Int} (hni : ∃ b ∈ t.brs, b.id = n) (hu : UnderT t.brs n x) : x = n ∨ ∃ k ∈ childs t n, UnderT t.brs k x := by
  induction hu with
  | self => exact .inl rfl
  | @step b hb hp _ ih =>
    rcases ih with e | ⟨k, hk, hu⟩
    · exact .inr ⟨b.id, (childs_mem h (.inr hni)).2 ⟨b, hb, e, rfl⟩, UnderT.self⟩
    · exact .inr ⟨k, hk, UnderT.step hb hp hu⟩
/-- How deep a child stands. -/
theorem deep_child {t : Tr} (h : SoundM t) {b c : Br} {d : Nat} (hb : b ∈ t.brs) (hc : c ∈ t.brs) (hp : c.parent = b.id) (hd : deep t.brs t.brs.length b = some d) : deep t.brs t.brs.length c = some (d + 1) := by
  have hb0 := unit_pos (h.units b hb)
  have h1 : deep t.brs (t.brs.length + 1) c = some (d + 1) := by
    unfold deep
    rw [if_neg (by rw [hp]; exact hb0), hp, find_byid h.asc hb]
    show (deep t.brs t.brs.length b).map (· + 1) = _
    rw [hd]
    rfl
  exact (deep_mono _ c _ h1).2 _ (by have := deep_le h.asc hc h1; omega)
theorem deep_some {t : Tr} (h : SoundM t) {b : Br} (hb : b ∈ t.brs) : ∃ d, deep t.brs t.brs.length b = some d ∧ d ≤ t.brs.length := by
  have h2 := (sound_iff t).2 h
  have := (all_mem (P := fun b => (deep t.brs t.brs.length b).isSome = true)).1 h2.2.2.2.2.2 b hb
  obtain ⟨d, hd⟩ := Option.isSome_iff_exists.1 this
  exact ⟨d, hd, deep_le h.asc hb hd⟩
theorem mem_belowL {t : Tr} (h : SoundM t) : ∀ (f : Nat) (b : Br) (d : Nat), b ∈ t.brs → deep t.brs t.brs.length b = some d → t.brs.length ≤ f + d → ∀ x, x ∈ belowL t f b.id ↔ UnderT t.brs b.id x := by
  intro f
  induction f with
  | zero =>
    intro b d hb hd hf x
    unfold belowL
    rw [List.mem_singleton]
    constructor
    · rintro rfl; exact UnderT.self
    · intro hu
      rcases under_first h ⟨b, hb, rfl⟩ hu with e | ⟨k, hk, _⟩
      · exact e
      · exfalso
        obtain ⟨c, hc, hp, _⟩ := (childs_mem h (.inr ⟨b, hb, rfl⟩)).1 hk
        have h1 := deep_child h hb hc hp hd
        have h2 := deep_le h.asc hc h1
        omega
  | succ f ih =>
    intro b d hb hd hf x
    unfold belowL
    rw [List.mem_cons, List.mem_flatMap]
    have hkid : ∀ k, k ∈ childs t b.id → ∃ c ∈ t.brs, c.parent = b.id ∧ c.id = k ∧ ∀ x, x ∈ belowL t f k ↔ UnderT t.brs k x := by
      intro k hk
      obtain ⟨c, hc, hp, e⟩ := (childs_mem h (.inr ⟨b, hb, rfl⟩)).1 hk
      refine ⟨c, hc, hp, e, fun x => ?_⟩
      rw [← e]
      exact ih c (d + 1) hc (deep_child h hb hc hp hd) (by omega) x
    constructor
    · rintro (rfl | ⟨k, hk, hx⟩)
      · exact UnderT.self
      · obtain ⟨c, hc, hp, e, hiff⟩ := hkid k hk
        refine under_trans ?_ ((hiff x).1 hx)
        rw [← e]
        exact UnderT.step hc (by rw [hp]; exact unit_pos (h.units b hb)) (by rw [hp]; exact UnderT.self)
    · intro hu
      rcases under_first h ⟨b, hb, rfl⟩ hu with e | ⟨k, hk, hx⟩
      · exact .inl e
      · obtain ⟨c, hc, hp, e, hiff⟩ := hkid k hk
        exact .inr ⟨k, hk, (hiff x).2 hx⟩
/-- What is below a unit of a sound tree: just the units under it. -/
theorem mem_below {t : Tr} (h : SoundM t) {b : Br} (hb : b ∈ t.brs) (x : Int) : x ∈ belowT t b.id ↔ UnderT t.brs b.id x := by
  obtain ⟨d, hd, _⟩ := deep_some h hb
  unfold belowT
  rw [if_neg (unit_pos (h.units b hb))]
  exact mem_belowL h _ b d hb hd (by omega) x
/-- Two trees with the same lists of children under a unit have the same units below it. -/
theorem below_same (t u : Tr) (l : List Br) (n : Int) (hs : ∀ x, UnderT l n x → childs t x = childs u x) (hc : ∀ x, UnderT l n x → ∀ k ∈ childs t x, UnderT l n k) : ∀ (f : Nat) (x : Int), UnderT l n x → belowL t f x = belowL u f x := by
  intro f
  induction f with
  | zero => intro x _; rfl
  | succ f ih =>
    intro x hx
    unfold belowL
    rw [← hs x hx]
    congr 1
    have key : ∀ ks : List Int, (∀ k ∈ ks, UnderT l n k) → ks.flatMap (belowL t f) = ks.flatMap (belowL u f) := by
      intro ks
      induction ks with
      | nil => intro _; rfl
      | cons k r ihk =>
        intro hks
        rw [List.flatMap_cons, List.flatMap_cons, ih k (hks k (List.mem_cons_self ..)), ihk (fun k hk => hks k (List.mem_cons_of_mem _ hk))]
    exact key _ (hc x hx)
end Go.Proofs.YtafncfomiolmgaaGreatDoor

/- What an operation does to a tree, plainly: its faults in order, and the tree behind it, which is right but for its depth. No condition. -/
namespace Go.Proofs.YtafncfomiolmgaaGreatDoor
open Go.RowKit

/-- An empty string or a mark. -/
def markE (l : List UInt8) : Bool := decide (l.length ≤ 64) && allIn 33 126 l
def originF (f a n : Int) : Bool := within f 0 1073741824 && ((within a 1 1073741824 && within n 1 9999) || (a == 0 && n == 0))
def noOrigin (o : Opn) : Bool := o.office == 0 && (o.acc == 0 && o.num == 0)
def noPlace (o : Opn) : Bool := o.parent == 0 && (o.before == 0 && o.level == 0)
def placeF (o : Opn) : Bool := within o.parent 0 1073741824 && within o.before 0 1073741824
def emptyS (s : ByteArray) : Bool := s.toList.isEmpty
def kindF (o : Opn) : Bool :=
  if o.kind = 1 then placeF o && (within o.level 1 4 && (nameF o.title.data.toList && (markE o.mark.data.toList && originF o.office o.acc o.num)))
  else if o.kind = 2 then placeF o && (o.level == 0 && (emptyS o.title && (emptyS o.mark && noOrigin o)))
  else if o.kind = 3 then nameF o.title.data.toList && (noPlace o && (emptyS o.mark && noOrigin o))
  else if o.kind = 4 then markE o.mark.data.toList && (noPlace o && (emptyS o.title && noOrigin o))
  else if o.kind = 5 ∨ o.kind = 6 then noPlace o && (emptyS o.title && (emptyS o.mark && noOrigin o))
  else false
/-- Whether an operation has its form. -/
def formedO (o : Opn) : Bool := within o.id 1 1073741824 && (within o.day 0 1048575 && (within o.unit 1 1073741824 && kindF o))
def standsB (t : Tr) (parent level : Int) : Bool := if parent = 0 then level == 1 else match brFind t.brs parent with
  | none => false
  | some p => fitsF p.level level
/-- Whether a unit but one bears a mark. -/
def usedB (t : Tr) (m : ByteArray) (but : Int) : Bool := !m.toList.isEmpty && t.brs.any fun b => b.mark.toList == m.toList && !(b.id == but)
def faultC (t : Tr) (o : Opn) : Int :=
  if (brFind t.brs o.unit).isSome = true then 6
  else if o.parent ≠ 0 ∧ (brFind t.brs o.parent).isSome = false then 7
  else if standsB t o.parent o.level = false then 18
  else if o.before ≠ 0 ∧ o.before ∉ childs t o.parent then 7
  else if usedB t o.mark 0 = true then 19
  else if 256 ≤ t.brs.length then 8 else 0
def faultM (t : Tr) (o : Opn) : Int := match brFind t.brs o.unit with
  | none => 7
  | some u =>
    if o.parent ≠ 0 ∧ (brFind t.brs o.parent).isSome = false then 7
    else if o.parent ∈ belowT t o.unit then 17
    else if standsB t o.parent u.level = false then 18
    else if o.before ≠ 0 ∧ (o.before = o.unit ∨ o.before ∉ childs t o.parent) then 7 else 0
def faultL (t : Tr) (o : Opn) : Int := match brFind t.brs o.unit with
  | none => 7
  | some _ => if o.kind = 4 ∧ usedB t o.mark o.unit = true then 19 else 0
def faultR (t : Tr) (o : Opn) : Int := match brFind t.brs o.unit with
  | none => 7
  | some u => if u.kids ≠ [] then 11 else 0
/-- The first fault of an operation on a tree, but for the depth. -/
def faultO (t : Tr) (o : Opn) : Int := if o.kind = 1 then faultC t o else if o.kind = 2 then faultM t o else if o.kind = 5 then faultR t o else faultL t o
/-- The tree behind an operation. -/
def newT (t : Tr) (o : Opn) : Tr :=
  if o.kind = 1 then createT t o else match brFind t.brs o.unit with
    | none => t
    | some u => if o.kind = 2 then moveT t o u else if o.kind = 5 then removeT t o u
      else if o.kind = 3 then setU t o.unit fun b => { b with title := o.title } else setU t o.unit fun b => { b with mark := o.mark }
open Classical in
/-- What Apply returns. -/
noncomputable def applyR (t : Tr) (o : Opn) : Tr × Int :=
  if ¬ RightT t ∨ formedO o = false ∨ o.kind = 6 then (⟨[], []⟩, 1) else if faultO t o ≠ 0 then (⟨[], []⟩, faultO t o) else if RightT (newT t o) then (newT t o, 0) else (⟨[], []⟩, 15)
theorem stands_iff {t : Tr} (h : idsAsc t.brs) (p lv : Int) : standsB t p lv = true ↔ StandsT t.brs p lv := by
  unfold standsB StandsT
  by_cases hp : p = 0
  · simp [hp]
  · rw [if_neg hp]
    cases hf : brFind t.brs p with
    | none =>
      have := (find_none p).1 hf
      simp only [Bool.false_eq_true, false_iff]
      rintro (⟨h1, _⟩ | ⟨_, q, hq, h2, _⟩)
      · exact hp h1
      · exact this q hq h2
    | some q =>
      have hq := find_in hf
      constructor
      · exact fun h1 => .inr ⟨hp, q, hq.1, hq.2, h1⟩
      · rintro (⟨h1, _⟩ | ⟨_, q2, hq2, h2, h3⟩)
        · exact absurd h1 hp
        · have := asc_same h hq2 hq.1 (by rw [h2, hq.2])
          subst this
          exact h3
theorem used_no {t : Tr} {m : ByteArray} {but : Int} (h : usedB t m but = false) : ∀ c ∈ t.brs, c.id ≠ but → m.toList.isEmpty = false → m.toList ≠ c.mark.toList := by
  intro c hc hne hm he
  unfold usedB at h
  rw [hm] at h
  simp only [Bool.not_false, Bool.true_and, List.any_eq_false] at h
  have := h c hc
  rw [← he] at this
  simp [hne] at this
theorem markE_ok {m : ByteArray} (h : markE m.data.toList = true) : m.toList.isEmpty = false → markF m.data.toList = true := by
  intro hne
  unfold markE at h
  unfold markF
  rw [Bool.and_eq_true, decide_eq_true_eq] at h
  rw [Bool.and_eq_true, decide_eq_true_eq]
  refine ⟨⟨?_, h.1⟩, h.2⟩
  by_cases h0 : m.data.toList.length = 0
  · exfalso
    have h1 : m.data.toList = [] := List.eq_nil_of_length_eq_zero h0
    have h2 : m.toList = [] := by
      rw [← h1, ByteArray.toList_eq]
    rw [h2] at hne
    cases hne
  · omega
theorem newT_sound {t : Tr} {o : Opn} (h : SoundM t) (hf : formedO o = true) (h6 : o.kind ≠ 6) (h0 : faultO t o = 0) : SoundM (newT t o) := by
  obtain ⟨hC, hK⟩ := (sound_parts t).1 h
  unfold formedO at hf
  simp only [Bool.and_eq_true] at hf
  obtain ⟨-, -, hu, hk⟩ := hf
  unfold kindF at hk
  unfold faultO at h0
  unfold newT
  by_cases h1 : o.kind = 1
  · rw [if_pos h1] at hk h0 ⊢
    simp only [Bool.and_eq_true] at hk
    unfold faultC at h0
    split at h0
    · simp at h0
    · rename_i e1
      split at h0
      · simp at h0
      · split at h0
        · simp at h0
        · rename_i e3
          split at h0
          · simp at h0
          · rename_i e4
            split at h0
            · simp at h0
            · rename_i e5
              split at h0
              · simp at h0
              · rename_i e6
                refine create_sound h ⟨?_, ⟨hu, hk.2.1, hk.2.2.1, markE_ok hk.2.2.2.1⟩, (stands_iff hC.asc _ _).1 (by simpa using e3), fun hb => ?_, fun c hc hne => ?_, by omega⟩
                · have : brFind t.brs o.unit = none := by simpa using e1
                  exact (find_none _).1 this
                · by_cases hm : o.before ∈ childs t o.parent
                  · exact hm
                  · exact absurd ⟨hb, hm⟩ e4
                · exact (used_no (by simpa using e5) c hc (fun e => unit_pos (hC.units c hc) e) hne).symm
  · rw [if_neg h1] at hk h0 ⊢
    cases hb : brFind t.brs o.unit with
    | none =>
      exfalso
      unfold faultM faultR faultL at h0
      rw [hb] at h0
      simp only [ite_self] at h0
      cases h0
    | some u =>
      have hin := find_in hb
      show SoundM (if o.kind = 2 then moveT t o u else if o.kind = 5 then removeT t o u else if o.kind = 3 then setU t o.unit fun b => { b with title := o.title } else setU t o.unit fun b => { b with mark := o.mark })
      by_cases h2 : o.kind = 2
      · rw [if_pos h2] at h0 ⊢
        unfold faultM at h0
        rw [hb] at h0
        simp only at h0
        split at h0
        · simp at h0
        · rename_i e1
          split at h0
          · simp at h0
          · rename_i e2
            split at h0
            · simp at h0
            · rename_i e3
              split at h0
              · simp at h0
              · rename_i e4
                refine move_sound h ⟨hin.1, hin.2, (stands_iff hC.asc _ _).1 (by simpa using e3), fun hud => ?_, fun hbf => ?_⟩
                · rw [← hin.2] at hud e2
                  exact e2 ((mem_below h hin.1 _).2 hud)
                · rw [mem_without]
                  by_cases hm : o.before ∈ childs t o.parent
                  · exact ⟨hm, fun e => e4 ⟨hbf, .inl e⟩⟩
                  · exact absurd ⟨hbf, .inr hm⟩ e4
      · rw [if_neg h2] at h0 ⊢
        by_cases h5 : o.kind = 5
        · rw [if_pos h5] at h0 ⊢
          unfold faultR at h0
          rw [hb] at h0
          simp only at h0
          split at h0
          · simp at h0
          · rename_i e1
            exact remove_sound h hin.1 hin.2 (by simpa using e1)
        · rw [if_neg h5] at h0 ⊢
          rw [if_neg h2] at hk
          have hun : ∀ b ∈ t.brs, b.id = o.unit → UnitOk b := fun b hbm _ => hC.units b hbm
          by_cases h3 : o.kind = 3
          · rw [if_pos h3] at hk ⊢
            simp only [Bool.and_eq_true] at hk
            refine label_sound h _ _ (fun b => ⟨rfl, rfl, rfl, rfl⟩) (fun b hbm e => ?_) (fun b hbm e c hc hne hme => ?_)
            · obtain ⟨a1, a2, _, a4⟩ := hun b hbm e
              exact ⟨a1, a2, hk.1, a4⟩
            · intro he
              exact hne (by rw [← hC.marks b hbm c hc hme he]; exact e)
          · rw [if_neg h3] at hk ⊢
            by_cases h4 : o.kind = 4
            · rw [if_pos h4] at hk
              simp only [Bool.and_eq_true] at hk
              unfold faultL at h0
              rw [hb] at h0
              simp only at h0
              split at h0
              · simp at h0
              · rename_i e1
                refine label_sound h _ _ (fun b => ⟨rfl, rfl, rfl, rfl⟩) (fun b hbm e => ?_) (fun b hbm e c hc hne hme => ?_)
                · obtain ⟨a1, a2, a3, _⟩ := hun b hbm e
                  exact ⟨a1, a2, a3, markE_ok hk.1⟩
                · have hus : usedB t o.mark o.unit = false := by
                    rw [← Bool.not_eq_true]
                    exact fun hx => e1 ⟨h4, hx⟩
                  exact used_no hus c hc hne hme
            · exfalso
              have h56 : ¬ (o.kind = 5 ∨ o.kind = 6) := fun h => h.elim h5 h6
              rw [if_neg h4, if_neg h56] at hk
              cases hk
/-- Apply leads from a right tree to a right tree. -/
theorem applyR_right {t : Tr} {o : Opn} (h : (applyR t o).2 = 0) : RightT t ∧ RightT (applyR t o).1 := by
  unfold applyR at h ⊢
  split at h
  · simp at h
  · rename_i e1
    rw [if_neg e1]
    split at h
    · rename_i e2
      exact absurd h e2
    · rename_i e2
      rw [if_neg e2]
      split at h
      · rename_i e3
        rw [if_pos e3]
        refine ⟨?_, e3⟩
        exact Classical.byContradiction fun hn => e1 (.inl hn)
      · simp at h
end Go.Proofs.YtafncfomiolmgaaGreatDoor

/- The reference's Valid of an origin, walked. No condition. -/
namespace Go.Proofs.YtafncfomiolmgaaGreatDoor
open Go.RowKit

theorem ref18In (n lo hi : Int) (w : World) : Calls Tryz.prog 84 #[.int .i64 n, .int .i64 lo, .int .i64 hi] w fun e w' => e = .returned (.bool (within n lo hi)) ∧ w = w' := by
  unfold within
  cases a1 : decide (lo ≤ n) <;> cases a2 : decide (n ≤ hi)
  all_goals
    go_enter Tryz.func84, Tryz.ntmps84
    go_wp2
    go_ret
    exact ⟨rfl, rfl⟩
set_option maxRecDepth 100000 in
theorem ref18Valid (f a n : Int) (w : World) : Calls Tryz.prog 46 #[.agg #[.int .i64 f, .int .i64 a, .int .i64 n]] w fun e w' => e = .returned (.bool (originF f a n)) ∧ Grew w w' := by
  have k1 := fun W => ref18In f 0 1073741824 W
  have k2 := fun W => ref18In a 1 1073741824 W
  have k3 := fun W => ref18In n 1 9999 W
  unfold originF
  generalize within f 0 1073741824 = b1 at k1
  generalize within a 1 1073741824 = b2 at k2
  generalize within n 1 9999 = b3 at k3
  have K1 := Lib.hid k1
  have K2 := Lib.hid k2
  have K3 := Lib.hid k3
  clear k1 k2 k3
  cases b1 <;> cases b2 <;> cases b3 <;> cases a4 : (a == 0) <;> cases a5 : (n == 0)
  all_goals
    go_enter Tryz.func46, Tryz.ntmps46
    go_wp2_with (first | (go_at_call 84; (first | (with_reducible refine (K1.out _).mono ?_; rintro e w1 ⟨rfl, rfl⟩) | (with_reducible refine (K2.out _).mono ?_; rintro e w1 ⟨rfl, rfl⟩) | (with_reducible refine (K3.out _).mono ?_; rintro e w1 ⟨rfl, rfl⟩))))
    go_ret
    exact ⟨rfl, (Grew.refl w).alloc _⟩
end Go.Proofs.YtafncfomiolmgaaGreatDoor

/- The reference of layer 21: in, has, without, put, walked. The condition: the lists are short. -/
namespace Go.Proofs.YtafncfomiolmgaaGreatDoor
open Go.RowKit

theorem ref21In (n lo hi : Int) (w : World) : Calls Tryz.prog 42 #[.int .i64 n, .int .i64 lo, .int .i64 hi] w fun e w' => e = .returned (.bool (within n lo hi)) ∧ w = w' := by
  unfold within
  cases a1 : decide (lo ≤ n) <;> cases a2 : decide (n ≤ hi)
  all_goals
    go_enter Tryz.func42, Tryz.ntmps42
    go_wp2
    go_ret
    exact ⟨rfl, rfl⟩
end Go.Proofs.YtafncfomiolmgaaGreatDoor
