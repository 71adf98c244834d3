/- Lemmas on what the functions of the program and of the library compute: PlainMv, PlainBl, PlainAp, PlainTg, PlainBk, PlainBm, PlainBr, PlainCh, PlainCan. The conditions stand at each. -/
import Derived.Test.YtafncfomiolmgaaGreatDoorQ8
/- A unit that is moved: the tree stays right but for its depth. No condition. -/
namespace Go.Proofs.YtafncfomiolmgaaGreatDoor
open Go.RowKit

/-- A unit that is the given one, or below it. -/
inductive UnderT (l : List Br) (n : Int) : Int → Prop
  | self : UnderT l n n
  | step {b : Br} : b ∈ l → b.parent ≠ 0 → UnderT l n b.parent → UnderT l n b.id
theorem under_parent {l : List Br} (h : idsAsc l) {n : Int} {b : Br} (hb : b ∈ l) (hne : b.id ≠ n) (hu : UnderT l n b.id) : b.parent ≠ 0 ∧ UnderT l n b.parent := by
  generalize hx : b.id = x at hu
  cases hu with
  | self => exact absurd hx hne
  | @step c hc hp hu =>
    have := asc_same h hb hc hx
    subst this
    exact ⟨hp, hu⟩
/-- A unit that may be moved. -/
structure CanMove (t : Tr) (o : Opn) (u : Br) : Prop where
  mem : u ∈ t.brs
  id : u.id = o.unit
  stands : StandsT t.brs o.parent u.level
  notBelow : ¬ UnderT t.brs o.unit o.parent
  before : o.before ≠ 0 → o.before ∈ withoutF o.unit (childs t o.parent)
theorem without_no {n : Int} {l : List Int} (h : n ∉ l) : withoutF n l = l := by
  unfold withoutF
  rw [List.filter_eq_self]
  intro x hx
  simp
  rintro rfl
  exact h hx
/-- Behind taking a unit out, the list of children of each parent is the old one without it. -/
theorem childs_taken {t : Tr} (h : SoundM t) {u : Br} (hu : u ∈ t.brs) (q : Int) (hq : q = 0 ∨ ∃ b ∈ t.brs, b.id = q) : childs (setK t u.parent (withoutF u.id (childs t u.parent))) q = withoutF u.id (childs t q) := by
  obtain ⟨hC, hK⟩ := (sound_parts t).1 h
  have hp : u.parent = 0 ∨ ∃ b ∈ t.brs, b.id = u.parent := by
    rcases (placed_mem hC.asc u).1 (hC.placed u hu) with ⟨h1, _⟩ | ⟨_, p, hpm, h2, _⟩
    · exact .inl h1
    · exact .inr ⟨p, hpm, h2⟩
  rw [setK_childs _ _ q hp]
  by_cases hqp : q = u.parent
  · rw [if_pos hqp, hqp]
  · rw [if_neg hqp, without_no]
    intro hm
    obtain ⟨b, hb, h1, h2⟩ := ((hK q hq).2 u.id).1 hm
    have := asc_same hC.asc hb hu h2
    subst this
    exact hqp h1.symm
theorem move_sound {t : Tr} {o : Opn} {u : Br} (h : SoundM t) (hc : CanMove t o u) : SoundM (moveT t o u) := by
  obtain ⟨hC, hK⟩ := (sound_parts t).1 h
  have hu := hc.mem
  have hu0 : u.id ≠ 0 := unit_pos (hC.units u hu)
  have hp : o.parent = 0 ∨ ∃ b ∈ t.brs, b.id = o.parent := by
    rcases hc.stands with ⟨h1, _⟩ | ⟨_, q, hq, h2, _⟩
    · exact .inl h1
    · exact .inr ⟨q, hq, h2⟩
  have htk := childs_taken h hu
  have hT1 := setK_core u.parent (withoutF u.id (childs t u.parent)) hC
  have hids1 := setK_ids t u.parent (withoutF u.id (childs t u.parent))
  have hkd1 := setK_kids t u.parent (withoutF u.id (childs t u.parent))
  have hbr1 := setK_brs t u.parent (withoutF u.id (childs t u.parent))
  unfold moveT
  rw [← hc.id]
  generalize setK t u.parent (withoutF u.id (childs t u.parent)) = t1 at htk hT1 hids1 hkd1 hbr1 ⊢
  have hp1 : o.parent = 0 ∨ ∃ b ∈ t1.brs, b.id = o.parent := by
    rcases hp with h1 | h1
    · exact .inl h1
    · exact .inr ((hids1 _).2 h1)
  have hT2 := setK_core o.parent (putF u.id o.before (childs t1 o.parent)) hT1
  have hids2 := setK_ids t1 o.parent (putF u.id o.before (childs t1 o.parent))
  have hkd2 := setK_kids t1 o.parent (putF u.id o.before (childs t1 o.parent))
  have hch2 := fun q => setK_childs (t := t1) o.parent (putF u.id o.before (childs t1 o.parent)) q hp1
  have hbr2 := setK_brs t1 o.parent (putF u.id o.before (childs t1 o.parent))
  simp only
  generalize setK t1 o.parent (putF u.id o.before (childs t1 o.parent)) = t2 at hT2 hids2 hkd2 hch2 hbr2 ⊢
  -- the units of the three trees are the same but for their children
  have hm12 : ∀ (l : List Br) (p : Int) (ks : List Int) (m : List Br), m = (if p = 0 then l else l.map (kidG p ks)) → (∀ c ∈ m, ∃ d ∈ l, core c = core d) ∧ ∀ d ∈ l, ∃ c ∈ m, core c = core d := by
    rintro l p ks m rfl
    split
    · exact ⟨fun c hc => ⟨c, hc, rfl⟩, fun d hd => ⟨d, hd, rfl⟩⟩
    · refine ⟨fun c hc => ?_, fun d hd => ⟨_, List.mem_map.2 ⟨d, hd, rfl⟩, kidG_core _ _ d⟩⟩
      obtain ⟨d, hd, rfl⟩ := List.mem_map.1 hc
      exact ⟨d, hd, kidG_core _ _ d⟩
  have hm1 := hm12 _ _ _ _ hbr1
  have hm2 := hm12 _ _ _ _ hbr2
  have down : ∀ c ∈ t2.brs, ∃ d ∈ t.brs, core c = core d := fun c hcm => by
    obtain ⟨d, hd, e⟩ := hm2.1 c hcm
    obtain ⟨d2, hd2, e2⟩ := hm1.1 d hd
    exact ⟨d2, hd2, e.trans e2⟩
  have up : ∀ d ∈ t.brs, ∃ c ∈ t2.brs, core c = core d := fun d hd => by
    obtain ⟨c, hcm, e⟩ := hm1.2 d hd
    obtain ⟨c2, hc2, e2⟩ := hm2.2 c hcm
    exact ⟨c2, hc2, e2.trans e⟩
  clear hm12 hbr1 hbr2
  have e1 : ∀ b : Br, (if b.id = u.id then { b with parent := o.parent } else b).id = b.id := fun b => by split <;> rfl
  have e3 : ∀ b : Br, (if b.id = u.id then { b with parent := o.parent } else b).level = b.level := fun b => by split <;> rfl
  have e4 : ∀ b : Br, (if b.id = u.id then { b with parent := o.parent } else b).kids = b.kids := fun b => by split <;> rfl
  have e5 : ∀ b : Br, (if b.id = u.id then { b with parent := o.parent } else b).title = b.title := fun b => by split <;> rfl
  have e6 : ∀ b : Br, (if b.id = u.id then { b with parent := o.parent } else b).mark = b.mark := fun b => by split <;> rfl
  have hasc : idsAsc (t2.brs.map fun b => if b.id = u.id then { b with parent := o.parent } else b) := List.Pairwise.map _ (fun a b hab => by rw [e1, e1]; exact hab) hT2.asc
  rw [sound_parts]
  unfold setU
  refine ⟨⟨by rw [List.length_map]; exact hT2.len, hasc, fun c hcm => ?_, fun c hcm d hdm hne he => ?_, fun c hcm => ?_, ?_⟩, fun q hq => ?_⟩
  · obtain ⟨b, hb, rfl⟩ := List.mem_map.1 hcm
    have := hT2.units b hb
    unfold UnitOk at this ⊢
    rw [e1, e3, e5, e6]
    exact this
  · obtain ⟨b, hb, rfl⟩ := List.mem_map.1 hcm
    obtain ⟨b2, hb2, rfl⟩ := List.mem_map.1 hdm
    rw [e6] at hne he
    rw [e6] at he
    rw [e1, e1]
    exact hT2.marks b hb b2 hb2 hne he
  · obtain ⟨b, hb, rfl⟩ := List.mem_map.1 hcm
    rw [placed_mem hasc, e3]
    have hst : ∀ p lv, StandsT t2.brs p lv → (p = 0 ∧ lv = 1) ∨ (p ≠ 0 ∧ ∃ q ∈ t2.brs.map (fun b => if b.id = u.id then { b with parent := o.parent } else b), q.id = p ∧ fitsF q.level lv = true) := by
      rintro p lv (h1 | ⟨h1, q, hq, h2, h3⟩)
      · exact .inl h1
      · exact .inr ⟨h1, _, List.mem_map.2 ⟨q, hq, rfl⟩, by rw [e1]; exact h2, by rw [e3]; exact h3⟩
    by_cases hbu : b.id = u.id
    · rw [if_pos hbu]
      refine hst _ _ ?_
      have hl : b.level = u.level := by
        obtain ⟨d, hd, e⟩ := down b hb
        have := asc_same hC.asc hd hu (by rw [← (core_all e).1]; exact hbu)
        rw [(core_all e).2.2.1, this]
      rw [hl]
      rcases hc.stands with h1 | ⟨h1, q, hq, h2, h3⟩
      · exact .inl h1
      · obtain ⟨c, hcm2, e⟩ := up q hq
        exact .inr ⟨h1, c, hcm2, by rw [(core_all e).1]; exact h2, by rw [(core_all e).2.2.1]; exact h3⟩
    · rw [if_neg hbu]
      exact hst _ _ ((placed_mem hT2.asc b).1 (hT2.placed b hb))
  · obtain ⟨r, hr⟩ := hC.rank
    classical
    refine ⟨fun x => if UnderT t.brs u.id x then r x + (r o.parent + 1) else r x, fun c hcm hpn => ?_⟩
    obtain ⟨b, hb, rfl⟩ := List.mem_map.1 hcm
    obtain ⟨d, hd, e⟩ := down b hb
    have hid := (core_all e).1
    have hpar := (core_all e).2.1
    rw [e1]
    by_cases hbu : b.id = u.id
    · rw [if_pos hbu] at hpn ⊢
      simp only
      rw [hbu, if_neg (by rw [hc.id]; exact hc.notBelow), if_pos UnderT.self]
      omega
    · rw [if_neg hbu] at hpn ⊢
      have hlt := hr d hd (by rw [← hpar]; exact hpn)
      rw [← hpar, ← hid] at hlt
      have hiff : UnderT t.brs u.id b.id ↔ UnderT t.brs u.id b.parent := by
        rw [hid, hpar]
        constructor
        · exact fun hx => (under_parent hC.asc hd (by rw [← hid]; exact hbu) hx).2
        · exact fun hx => UnderT.step hd (by rw [← hpar]; exact hpn) hx
      simp only
      by_cases hx : UnderT t.brs u.id b.parent
      · rw [if_pos hx, if_pos (hiff.2 hx)]
        omega
      · rw [if_neg hx, if_neg (fun h => hx (hiff.1 h))]
        exact hlt
  · have hq1 : q = 0 ∨ ∃ b ∈ t.brs, b.id = q := by
      rcases hq with h1 | ⟨c, hcm, e⟩
      · exact .inl h1
      · obtain ⟨b, hb, rfl⟩ := List.mem_map.1 hcm
        obtain ⟨d, hd, e2⟩ := down b hb
        exact .inr ⟨d, hd, by rw [← (core_all e2).1, ← e, e1]⟩
    have hch : childs ⟨t2.roots, t2.brs.map fun b => if b.id = u.id then { b with parent := o.parent } else b⟩ q = childs t2 q := by
      unfold childs
      split
      · rfl
      · show (match brFind (t2.brs.map fun b => if b.id = u.id then { b with parent := o.parent } else b) q with
          | none => []
          | some b => b.kids) = _
        rw [find_map _ e1]
        cases brFind t2.brs q with
        | none => rfl
        | some b => exact e4 b
    have hKq := hK q hq1
    have hset : ∀ x, (∃ c ∈ t2.brs.map (fun b => if b.id = u.id then { b with parent := o.parent } else b), c.parent = q ∧ c.id = x) ↔ (x = u.id ∧ o.parent = q) ∨ (x ≠ u.id ∧ x ∈ childs t q) := by
      intro x
      rw [hKq.2 x]
      constructor
      · rintro ⟨c, hcm, h1, h2⟩
        obtain ⟨b, hb, rfl⟩ := List.mem_map.1 hcm
        rw [e1] at h2
        by_cases hbu : b.id = u.id
        · rw [if_pos hbu] at h1
          exact .inl ⟨by rw [← h2]; exact hbu, h1⟩
        · rw [if_neg hbu] at h1
          obtain ⟨d, hd, e⟩ := down b hb
          exact .inr ⟨by rw [← h2]; exact hbu, d, hd, by rw [← (core_all e).2.1]; exact h1, by rw [← (core_all e).1]; exact h2⟩
      · rintro (⟨h1, h2⟩ | ⟨h1, d, hd, h2, h3⟩)
        · obtain ⟨c, hcm, e⟩ := up u hu
          refine ⟨_, List.mem_map.2 ⟨c, hcm, rfl⟩, ?_, by rw [e1, (core_all e).1]; exact h1.symm⟩
          rw [if_pos (core_all e).1]
          exact h2
        · obtain ⟨c, hcm, e⟩ := up d hd
          have hcu : c.id ≠ u.id := by rw [(core_all e).1, h3]; exact h1
          refine ⟨_, List.mem_map.2 ⟨c, hcm, rfl⟩, ?_, by rw [e1, (core_all e).1]; exact h3⟩
          rw [if_neg hcu, (core_all e).2.1]
          exact h2
    have h00 : (0 : Int) ∉ childs t1 o.parent := fun hm => by
      rw [htk o.parent hp, mem_without] at hm
      obtain ⟨b, hb, _, e⟩ := ((hK _ hp).2 0).1 hm.1
      exact unit_pos (hC.units b hb) e
    have hbf : o.before ≠ 0 → o.before ∈ childs t1 o.parent := fun hb => by
      rw [htk o.parent hp, hc.id]
      exact hc.before hb
    have hnu : u.id ∉ childs t1 o.parent := fun hm => by
      rw [htk o.parent hp, mem_without] at hm
      exact hm.2 rfl
    have hnd1 : (childs t1 o.parent).Nodup := by
      rw [htk o.parent hp]
      exact nodup_without _ (hK _ hp).1
    rw [hch, hch2 q]
    unfold KidsAre
    simp only [hset]
    by_cases hqp : q = o.parent
    · rw [if_pos hqp]
      refine ⟨nodup_putF (fun _ => h00) hbf hnd1 hnu, fun x => ?_⟩
      rw [mem_putF (fun _ => h00) hbf, htk o.parent hp, mem_without, ← hqp]
      constructor
      · rintro (h1 | ⟨h1, h2⟩)
        · exact .inl ⟨h1, rfl⟩
        · exact .inr ⟨h2, h1⟩
      · rintro (⟨h1, _⟩ | ⟨h1, h2⟩)
        · exact .inl h1
        · exact .inr ⟨h2, h1⟩
    · rw [if_neg hqp, htk q hq1]
      refine ⟨nodup_without _ hKq.1, fun x => ?_⟩
      rw [mem_without]
      constructor
      · rintro ⟨h1, h2⟩
        exact .inr ⟨h2, h1⟩
      · rintro (⟨_, h2⟩ | ⟨h1, h2⟩)
        · exact absurd h2.symm hqp
        · exact ⟨h2, h1⟩
end Go.Proofs.YtafncfomiolmgaaGreatDoor

/- A unit and all that are below it, in order: just the units under it. No condition. -/
namespace Go.Proofs.YtafncfomiolmgaaGreatDoor
open Go.RowKit

/-- A unit and all that are below it, in order, so many steps down. -/
def belowL (t : Tr) : Nat → Int → List Int
  | 0, n => [n]
  | f + 1, n => n :: (childs t n).flatMap (belowL t f)
/-- A unit and all that are below it, in order; all units for 0. -/
def belowT (t : Tr) (n : Int) : List Int := if n = 0 then t.roots.flatMap (belowL t t.brs.length) else belowL t t.brs.length n
theorem under_trans {l : List Br} {a b c : Int} (h1 : UnderT l a b) (h2 : UnderT l b c) : UnderT l a c := by
  induction h2 with
  | self => exact h1
  | step hb hp _ ih => exact UnderT.step hb hp ih
theorem childs_mem {t : Tr} (h : SoundM t) {n x : Int} (hn : n = 0 ∨ ∃ b ∈ t.brs, b.id = n) : x ∈ childs t n ↔ ∃ c ∈ t.brs, c.parent = n ∧ c.id = x :=
  ((sound_parts t).1 h |>.2 n hn).2 x
theorem under_first {t : Tr} (h : SoundM t) {n x : Int} (hni : ∃ b ∈ t.brs, b.id = n) (hu : UnderT t.brs n x) : x = n ∨ ∃ k ∈ childs t n, UnderT t.brs k x := by
  induction hu with
  | self => exact .inl rfl
  | @step b hb hp _ ih =>
    rcases ih with e | ⟨k, hk, hu⟩
    · exact .inr ⟨b.id, (childs_mem h (.inr hni)).2 ⟨b, hb, e, rfl⟩, UnderT.self⟩
    · exact .inr ⟨k, hk, UnderT.step hb hp hu⟩
/-- How deep a child stands. -/
theorem deep_child {t : Tr} (h : SoundM t) {b c : Br} {d : Nat} (hb : b ∈ t.brs) (hc : c ∈ t.brs) (hp : c.parent = b.id) (hd : deep t.brs t.brs.length b = some d) : deep t.brs t.brs.length c = some (d + 1) := by
  have hb0 := unit_pos (h.units b hb)
  have h1 : deep t.brs (t.brs.length + 1) c = some (d + 1) := by
    unfold deep
    rw [if_neg (by rw [hp]; exact hb0), hp, find_byid h.asc hb]
    show (deep t.brs t.brs.length b).map (· + 1) = _
    rw [hd]
    rfl
  exact (deep_mono _ c _ h1).2 _ (by have := deep_le h.asc hc h1; omega)
theorem deep_some {t : Tr} (h : SoundM t) {b : Br} (hb : b ∈ t.brs) : ∃ d, deep t.brs t.brs.length b = some d ∧ d ≤ t.brs.length := by
  have h2 := (sound_iff t).2 h
  have := (all_mem (P := fun b => (deep t.brs t.brs.length b).isSome = true)).1 h2.2.2.2.2.2 b hb
  obtain ⟨d, hd⟩ := Option.isSome_iff_exists.1 this
  exact ⟨d, hd, deep_le h.asc hb hd⟩
theorem mem_belowL {t : Tr} (h : SoundM t) : ∀ (f : Nat) (b : Br) (d : Nat), b ∈ t.brs → deep t.brs t.brs.length b = some d → t.brs.length ≤ f + d → ∀ x, x ∈ belowL t f b.id ↔ UnderT t.brs b.id x := by
  intro f
  induction f with
  | zero =>
    intro b d hb hd hf x
    unfold belowL
    rw [List.mem_singleton]
    constructor
    · rintro rfl; exact UnderT.self
    · intro hu
      rcases under_first h ⟨b, hb, rfl⟩ hu with e | ⟨k, hk, _⟩
      · exact e
      · exfalso
        obtain ⟨c, hc, hp, _⟩ := (childs_mem h (.inr ⟨b, hb, rfl⟩)).1 hk
        have h1 := deep_child h hb hc hp hd
        have h2 := deep_le h.asc hc h1
        omega
  | succ f ih =>
    intro b d hb hd hf x
    unfold belowL
    rw [List.mem_cons, List.mem_flatMap]
    have hkid : ∀ k, k ∈ childs t b.id → ∃ c ∈ t.brs, c.parent = b.id ∧ c.id = k ∧ ∀ x, x ∈ belowL t f k ↔ UnderT t.brs k x := by
      intro k hk
      obtain ⟨c, hc, hp, e⟩ := (childs_mem h (.inr ⟨b, hb, rfl⟩)).1 hk
      refine ⟨c, hc, hp, e, fun x => ?_⟩
      rw [← e]
      exact ih c (d + 1) hc (deep_child h hb hc hp hd) (by omega) x
    constructor
    · rintro (rfl | ⟨k, hk, hx⟩)
      · exact UnderT.self
      · obtain ⟨c, hc, hp, e, hiff⟩ := hkid k hk
        refine under_trans ?_ ((hiff x).1 hx)
        rw [← e]
        exact UnderT.step hc (by rw [hp]; exact unit_pos (h.units b hb)) (by rw [hp]; exact UnderT.self)
    · intro hu
      rcases under_first h ⟨b, hb, rfl⟩ hu with e | ⟨k, hk, hx⟩
      · exact .inl e
      · obtain ⟨c, hc, hp, e, hiff⟩ := hkid k hk
        exact .inr ⟨k, hk, (hiff x).2 hx⟩
/-- What is below a unit of a sound tree: just the units under it. -/
theorem mem_below {t : Tr} (h : SoundM t) {b : Br} (hb : b ∈ t.brs) (x : Int) : x ∈ belowT t b.id ↔ UnderT t.brs b.id x := by
  obtain ⟨d, hd, _⟩ := deep_some h hb
  unfold belowT
  rw [if_neg (unit_pos (h.units b hb))]
  exact mem_belowL h _ b d hb hd (by omega) x
/-- Two trees with the same lists of children under a unit have the same units below it. -/
theorem below_same (t u : Tr) (l : List Br) (n : Int) (hs : ∀ x, UnderT l n x → childs t x = childs u x) (hc : ∀ x, UnderT l n x → ∀ k ∈ childs t x, UnderT l n k) : ∀ (f : Nat) (x : Int), UnderT l n x → belowL t f x = belowL u f x := by
  intro f
  induction f with
  | zero => intro x _; rfl
  | succ f ih =>
    intro x hx
    unfold belowL
    rw [← hs x hx]
    congr 1
    have key : ∀ ks : List Int, (∀ k ∈ ks, UnderT l n k) → ks.flatMap (belowL t f) = ks.flatMap (belowL u f) := by
      intro ks
      induction ks with
      | nil => intro _; rfl
      | cons k r ihk =>
        intro hks
        rw [List.flatMap_cons, List.flatMap_cons, ih k (hks k (List.mem_cons_self ..)), ihk (fun k hk => hks k (List.mem_cons_of_mem _ hk))]
    exact key _ (hc x hx)
end Go.Proofs.YtafncfomiolmgaaGreatDoor

/- What an operation does to a tree, plainly: its faults in order, and the tree behind it, which is right but for its depth. No condition. -/
namespace Go.Proofs.YtafncfomiolmgaaGreatDoor
open Go.RowKit

/-- An empty string or a mark. -/
def markE (l : List UInt8) : Bool := decide (l.length ≤ 64) && allIn 33 126 l
def originF (f a n : Int) : Bool := within f 0 1073741824 && ((within a 1 1073741824 && within n 1 9999) || (a == 0 && n == 0))
def noOrigin (o : Opn) : Bool := o.office == 0 && (o.acc == 0 && o.num == 0)
def noPlace (o : Opn) : Bool := o.parent == 0 && (o.before == 0 && o.level == 0)
def placeF (o : Opn) : Bool := within o.parent 0 1073741824 && within o.before 0 1073741824
def emptyS (s : ByteArray) : Bool := s.toList.isEmpty
def kindF (o : Opn) : Bool :=
  if o.kind = 1 then placeF o && (within o.level 1 4 && (nameF o.title.data.toList && (markE o.mark.data.toList && originF o.office o.acc o.num)))
  else if o.kind = 2 then placeF o && (o.level == 0 && (emptyS o.title && (emptyS o.mark && noOrigin o)))
  else if o.kind = 3 then nameF o.title.data.toList && (noPlace o && (emptyS o.mark && noOrigin o))
  else if o.kind = 4 then markE o.mark.data.toList && (noPlace o && (emptyS o.title && noOrigin o))
  else if o.kind = 5 ∨ o.kind = 6 then noPlace o && (emptyS o.title && (emptyS o.mark && noOrigin o))
  else false
/-- Whether an operation has its form. -/
def formedO (o : Opn) : Bool := within o.id 1 1073741824 && (within o.day 0 1048575 && (within o.unit 1 1073741824 && kindF o))
def standsB (t : Tr) (parent level : Int) : Bool := if parent = 0 then level == 1 else match brFind t.brs parent with
  | none => false
  | some p => fitsF p.level level
/-- Whether a unit but one bears a mark. -/
def usedB (t : Tr) (m : ByteArray) (but : Int) : Bool := !m.toList.isEmpty && t.brs.any fun b => b.mark.toList == m.toList && !(b.id == but)
def faultC (t : Tr) (o : Opn) : Int :=
  if (brFind t.brs o.unit).isSome = true then 6
  else if o.parent ≠ 0 ∧ (brFind t.brs o.parent).isSome = false then 7
  else if standsB t o.parent o.level = false then 18
  else if o.before ≠ 0 ∧ o.before ∉ childs t o.parent then 7
  else if usedB t o.mark 0 = true then 19
  else if 256 ≤ t.brs.length then 8 else 0
def faultM (t : Tr) (o : Opn) : Int := match brFind t.brs o.unit with
  | none => 7
  | some u =>
    if o.parent ≠ 0 ∧ (brFind t.brs o.parent).isSome = false then 7
    else if o.parent ∈ belowT t o.unit then 17
    else if standsB t o.parent u.level = false then 18
    else if o.before ≠ 0 ∧ (o.before = o.unit ∨ o.before ∉ childs t o.parent) then 7 else 0
def faultL (t : Tr) (o : Opn) : Int := match brFind t.brs o.unit with
  | none => 7
  | some _ => if o.kind = 4 ∧ usedB t o.mark o.unit = true then 19 else 0
def faultR (t : Tr) (o : Opn) : Int := match brFind t.brs o.unit with
  | none => 7
  | some u => if u.kids ≠ [] then 11 else 0
/-- The first fault of an operation on a tree, but for the depth. -/
def faultO (t : Tr) (o : Opn) : Int := if o.kind = 1 then faultC t o else if o.kind = 2 then faultM t o else if o.kind = 5 then faultR t o else faultL t o
/-- The tree behind an operation. -/
def newT (t : Tr) (o : Opn) : Tr :=
  if o.kind = 1 then createT t o else match brFind t.brs o.unit with
    | none => t
    | some u => if o.kind = 2 then moveT t o u else if o.kind = 5 then removeT t o u
      else if o.kind = 3 then setU t o.unit fun b => { b with title := o.title } else setU t o.unit fun b => { b with mark := o.mark }
open Classical in
/-- What Apply returns. -/
noncomputable def applyR (t : Tr) (o : Opn) : Tr × Int :=
  if ¬ RightT t ∨ formedO o = false ∨ o.kind = 6 then (⟨[], []⟩, 1) else if faultO t o ≠ 0 then (⟨[], []⟩, faultO t o) else if RightT (newT t o) then (newT t o, 0) else (⟨[], []⟩, 15)
theorem stands_iff {t : Tr} (h : idsAsc t.brs) (p lv : Int) : standsB t p lv = true ↔ StandsT t.brs p lv := by
  unfold standsB StandsT
  by_cases hp : p = 0
  · simp [hp]
  · rw [if_neg hp]
    cases hf : brFind t.brs p with
    | none =>
      have := (find_none p).1 hf
      simp only [Bool.false_eq_true, false_iff]
      rintro (⟨h1, _⟩ | ⟨_, q, hq, h2, _⟩)
      · exact hp h1
      · exact this q hq h2
    | some q =>
      have hq := find_in hf
      constructor
      · exact fun h1 => .inr ⟨hp, q, hq.1, hq.2, h1⟩
      · rintro (⟨h1, _⟩ | ⟨_, q2, hq2, h2, h3⟩)
        · exact absurd h1 hp
        · have := asc_same h hq2 hq.1 (by rw [h2, hq.2])
          subst this
          exact h3
theorem used_no {t : Tr} {m : ByteArray} {but : Int} (h : usedB t m but = false) : ∀ c ∈ t.brs, c.id ≠ but → m.toList.isEmpty = false → m.toList ≠ c.mark.toList := by
  intro c hc hne hm he
  unfold usedB at h
  rw [hm] at h
  simp only [Bool.not_false, Bool.true_and, List.any_eq_false] at h
  have := h c hc
  rw [← he] at this
  simp [hne] at this
theorem markE_ok {m : ByteArray} (h : markE m.data.toList = true) : m.toList.isEmpty = false → markF m.data.toList = true := by
  intro hne
  unfold markE at h
  unfold markF
  rw [Bool.and_eq_true, decide_eq_true_eq] at h
  rw [Bool.and_eq_true, decide_eq_true_eq]
  refine ⟨⟨?_, h.1⟩, h.2⟩
  by_cases h0 : m.data.toList.length = 0
  · exfalso
    have h1 : m.data.toList = [] := List.eq_nil_of_length_eq_zero h0
    have h2 : m.toList = [] := by
      rw [← h1, ByteArray.toList_eq]
    rw [h2] at hne
    cases hne
  · omega
theorem newT_sound {t : Tr} {o : Opn} (h : SoundM t) (hf : formedO o = true) (h6 : o.kind ≠ 6) (h0 : faultO t o = 0) : SoundM (newT t o) := by
  obtain ⟨hC, hK⟩ := (sound_parts t).1 h
  unfold formedO at hf
  simp only [Bool.and_eq_true] at hf
  obtain ⟨-, -, hu, hk⟩ := hf
  unfold kindF at hk
  unfold faultO at h0
  unfold newT
  by_cases h1 : o.kind = 1
  · rw [if_pos h1] at hk h0 ⊢
    simp only [Bool.and_eq_true] at hk
    unfold faultC at h0
    split at h0
    · simp at h0
    · rename_i e1
      split at h0
      · simp at h0
      · split at h0
        · simp at h0
        · rename_i e3
          split at h0
          · simp at h0
          · rename_i e4
            split at h0
            · simp at h0
            · rename_i e5
              split at h0
              · simp at h0
              · rename_i e6
                refine create_sound h ⟨?_, ⟨hu, hk.2.1, hk.2.2.1, markE_ok hk.2.2.2.1⟩, (stands_iff hC.asc _ _).1 (by simpa using e3), fun hb => ?_, fun c hc hne => ?_, by omega⟩
                · have : brFind t.brs o.unit = none := by simpa using e1
                  exact (find_none _).1 this
                · by_cases hm : o.before ∈ childs t o.parent
                  · exact hm
                  · exact absurd ⟨hb, hm⟩ e4
                · exact (used_no (by simpa using e5) c hc (fun e => unit_pos (hC.units c hc) e) hne).symm
  · rw [if_neg h1] at hk h0 ⊢
    cases hb : brFind t.brs o.unit with
    | none =>
      exfalso
      unfold faultM faultR faultL at h0
      rw [hb] at h0
      simp only [ite_self] at h0
      cases h0
    | some u =>
      have hin := find_in hb
      show SoundM (if o.kind = 2 then moveT t o u else if o.kind = 5 then removeT t o u else if o.kind = 3 then setU t o.unit fun b => { b with title := o.title } else setU t o.unit fun b => { b with mark := o.mark })
      by_cases h2 : o.kind = 2
      · rw [if_pos h2] at h0 ⊢
        unfold faultM at h0
        rw [hb] at h0
        simp only at h0
        split at h0
        · simp at h0
        · rename_i e1
          split at h0
          · simp at h0
          · rename_i e2
            split at h0
            · simp at h0
            · rename_i e3
              split at h0
              · simp at h0
              · rename_i e4
                refine move_sound h ⟨hin.1, hin.2, (stands_iff hC.asc _ _).1 (by simpa using e3), fun hud => ?_, fun hbf => ?_⟩
                · rw [← hin.2] at hud e2
                  exact e2 ((mem_below h hin.1 _).2 hud)
                · rw [mem_without]
                  by_cases hm : o.before ∈ childs t o.parent
                  · exact ⟨hm, fun e => e4 ⟨hbf, .inl e⟩⟩
                  · exact absurd ⟨hbf, .inr hm⟩ e4
      · rw [if_neg h2] at h0 ⊢
        by_cases h5 : o.kind = 5
        · rw [if_pos h5] at h0 ⊢
          unfold faultR at h0
          rw [hb] at h0
          simp only at h0
          split at h0
          · simp at h0
          · rename_i e1
            exact remove_sound h hin.1 hin.2 (by simpa using e1)
        · rw [if_neg h5] at h0 ⊢
          rw [if_neg h2] at hk
          have hun : ∀ b ∈ t.brs, b.id = o.unit → UnitOk b := fun b hbm _ => hC.units b hbm
          by_cases h3 : o.kind = 3
          · rw [if_pos h3] at hk ⊢
            simp only [Bool.and_eq_true] at hk
            refine label_sound h _ _ (fun b => ⟨rfl, rfl, rfl, rfl⟩) (fun b hbm e => ?_) (fun b hbm e c hc hne hme => ?_)
            · obtain ⟨a1, a2, _, a4⟩ := hun b hbm e
              exact ⟨a1, a2, hk.1, a4⟩
            · intro he
              exact hne (by rw [← hC.marks b hbm c hc hme he]; exact e)
          · rw [if_neg h3] at hk ⊢
            by_cases h4 : o.kind = 4
            · rw [if_pos h4] at hk
              simp only [Bool.and_eq_true] at hk
              unfold faultL at h0
              rw [hb] at h0
              simp only at h0
              split at h0
              · simp at h0
              · rename_i e1
                refine label_sound h _ _ (fun b => ⟨rfl, rfl, rfl, rfl⟩) (fun b hbm e => ?_) (fun b hbm e c hc hne hme => ?_)
                · obtain ⟨a1, a2, a3, _⟩ := hun b hbm e
                  exact ⟨a1, a2, a3, markE_ok hk.1⟩
                · have hus : usedB t o.mark o.unit = false := by
                    rw [← Bool.not_eq_true]
                    exact fun hx => e1 ⟨h4, hx⟩
                  exact used_no hus c hc hne hme
            · exfalso
              have h56 : ¬ (o.kind = 5 ∨ o.kind = 6) := fun h => h.elim h5 h6
              rw [if_neg h4, if_neg h56] at hk
              cases hk
/-- Apply leads from a right tree to a right tree. -/
theorem applyR_right {t : Tr} {o : Opn} (h : (applyR t o).2 = 0) : RightT t ∧ RightT (applyR t o).1 := by
  unfold applyR at h ⊢
  split at h
  · simp at h
  · rename_i e1
    rw [if_neg e1]
    split at h
    · rename_i e2
      exact absurd h e2
    · rename_i e2
      rw [if_neg e2]
      split at h
      · rename_i e3
        rw [if_pos e3]
        refine ⟨?_, e3⟩
        exact Classical.byContradiction fun hn => e1 (.inl hn)
      · simp at h
end Go.Proofs.YtafncfomiolmgaaGreatDoor

/- A unit that is moved keeps what is below it, and stands where it was put. No condition. -/
namespace Go.Proofs.YtafncfomiolmgaaGreatDoor
open Go.RowKit

theorem parent_there {t : Tr} (h : SoundM t) {u : Br} (hu : u ∈ t.brs) : u.parent = 0 ∨ ∃ b ∈ t.brs, b.id = u.parent := by
  rcases (placed_mem h.asc u).1 (h.placed u hu) with ⟨h1, _⟩ | ⟨_, p, hpm, h2, _⟩
  · exact .inl h1
  · exact .inr ⟨p, hpm, h2⟩
theorem stands_there {l : List Br} {p lv : Int} (h : StandsT l p lv) : p = 0 ∨ ∃ b ∈ l, b.id = p := by
  rcases h with ⟨h1, _⟩ | ⟨_, q, hq, h2, _⟩
  · exact .inl h1
  · exact .inr ⟨q, hq, h2⟩
/-- The lists of children behind a move. -/
theorem childs_moved {t : Tr} {o : Opn} {u : Br} (h : SoundM t) (hc : CanMove t o u) (q : Int) (hq : q = 0 ∨ ∃ b ∈ t.brs, b.id = q) : childs (moveT t o u) q = if q = o.parent then putF o.unit o.before (withoutF o.unit (childs t o.parent)) else withoutF o.unit (childs t q) := by
  have hp := stands_there hc.stands
  have htk := childs_taken h hc.mem
  have hids1 := setK_ids t u.parent (withoutF u.id (childs t u.parent))
  unfold moveT
  simp only
  rw [← hc.id]
  generalize setK t u.parent (withoutF u.id (childs t u.parent)) = t1 at htk hids1 ⊢
  have hp1 : o.parent = 0 ∨ ∃ b ∈ t1.brs, b.id = o.parent := hp.imp id fun h1 => (hids1 _).2 h1
  have hch2 := setK_childs (t := t1) o.parent (putF u.id o.before (childs t1 o.parent)) q hp1
  generalize setK t1 o.parent (putF u.id o.before (childs t1 o.parent)) = t2 at hch2 ⊢
  have e1 : ∀ b : Br, (if b.id = u.id then { b with parent := o.parent } else b).id = b.id := fun b => by split <;> rfl
  have e4 : ∀ b : Br, (if b.id = u.id then { b with parent := o.parent } else b).kids = b.kids := fun b => by split <;> rfl
  have hch : childs (setU t2 u.id fun b => { b with parent := o.parent }) q = childs t2 q := by
    unfold childs setU
    split
    · rfl
    · show (match brFind (t2.brs.map fun b => if b.id = u.id then { b with parent := o.parent } else b) q with
        | none => []
        | some b => b.kids) = _
      rw [find_map _ e1]
      cases brFind t2.brs q with
      | none => rfl
      | some b => exact e4 b
  rw [hch, hch2, htk o.parent hp]
  by_cases hqp : q = o.parent
  · rw [if_pos hqp, if_pos hqp]
  · rw [if_neg hqp, if_neg hqp, htk q hq]
theorem under_there {l : List Br} {n x : Int} (hn : ∃ b ∈ l, b.id = n) (hu : UnderT l n x) : ∃ b ∈ l, b.id = x := by
  cases hu with
  | self => exact hn
  | step hb _ _ => exact ⟨_, hb, rfl⟩
theorem under_rank {l : List Br} {r : Int → Nat} (hr : ∀ b ∈ l, b.parent ≠ 0 → r b.parent < r b.id) {n x : Int} (hu : UnderT l n x) : r n ≤ r x := by
  induction hu with
  | self => exact Nat.le_refl _
  | step hb hp _ ih => have := hr _ hb hp; omega
theorem len_moved {t : Tr} {o : Opn} {u : Br} : (moveT t o u).brs.length = t.brs.length := by
  unfold moveT setU
  simp only [List.length_map]
  rw [setK_brs]
  split
  · rw [setK_brs]
    split <;> simp
  · rw [List.length_map, setK_brs]
    split <;> simp
/-- What is below a unit that moves stays below it, in the same order. -/
theorem below_moved {t : Tr} {o : Opn} {u : Br} (h : SoundM t) (hc : CanMove t o u) : belowT (moveT t o u) o.unit = belowT t o.unit := by
  have hu0 : o.unit ≠ 0 := by rw [← hc.id]; exact unit_pos (h.units u hc.mem)
  have hthere : ∃ b ∈ t.brs, b.id = o.unit := ⟨u, hc.mem, hc.id⟩
  unfold belowT
  rw [if_neg hu0, if_neg hu0, len_moved]
  obtain ⟨r, hr⟩ := h.rank
  refine (below_same t (moveT t o u) t.brs o.unit (fun x hx => ?_) (fun x hx k hk => ?_) t.brs.length o.unit UnderT.self).symm
  · have hxt := under_there hthere hx
    rw [childs_moved h hc x (.inr hxt), if_neg (fun e => hc.notBelow (by rw [← e]; exact hx)), without_no]
    intro hm
    obtain ⟨b, hb, hp, he⟩ := (childs_mem h (.inr hxt)).1 hm
    have h1 := under_rank hr hx
    obtain ⟨c, hcm, hce⟩ := hxt
    have h2 := hr b hb (by rw [hp, ← hce]; exact unit_pos (h.units c hcm))
    rw [hp, he] at h2
    omega
  · have hxt := under_there hthere hx
    obtain ⟨b, hb, hp, he⟩ := (childs_mem h (.inr hxt)).1 hk
    rw [← he]
    obtain ⟨c, hcm, hce⟩ := hxt
    exact UnderT.step hb (by rw [hp, ← hce]; exact unit_pos (h.units c hcm)) (by rw [hp]; exact hx)
end Go.Proofs.YtafncfomiolmgaaGreatDoor

/- Steps of the way back: a number that was put is taken out again, one that was taken out is put back; children set and set back. No condition. -/
namespace Go.Proofs.YtafncfomiolmgaaGreatDoor
open Go.RowKit

theorem without_putF (n before : Int) : ∀ {ks : List Int}, n ∉ ks → withoutF n (putF n before ks) = ks
  | [], _ => by
    unfold putF
    split <;> simp [withoutF]
  | y :: r, h => by
    rw [List.mem_cons, not_or] at h
    have ih := without_putF n before (ks := r) h.2
    have hr := without_no h.2
    unfold putF
    split
    · unfold withoutF at hr ⊢
      rw [List.filter_cons_of_neg (by simp), List.filter_cons_of_pos (by simp; exact fun e => h.1 e.symm), hr]
    · unfold withoutF at ih ⊢
      rw [List.filter_cons_of_pos (by simp; exact fun e => h.1 e.symm), ih]
/-- The number behind another one, or 0. -/
def behindF (n : Int) : List Int → Int
  | [] => 0
  | x :: r => if x = n then r.headD 0 else behindF n r
theorem putF_back {n : Int} : ∀ {ks : List Int}, ks.Nodup → (0 : Int) ∉ ks → n ∈ ks → putF n (behindF n ks) (withoutF n ks) = ks
  | [], _, _, h => by cases h
  | y :: r, h1, h2, h3 => by
    have h1' := List.nodup_cons.1 h1
    rw [List.mem_cons, not_or] at h2
    by_cases hy : y = n
    · subst hy
      have e : withoutF y (y :: r) = r := by
        have := without_no h1'.1
        unfold withoutF at this ⊢
        rw [List.filter_cons_of_neg (by simp), this]
      rw [e]
      unfold behindF
      rw [if_pos rfl]
      cases r with
      | nil => simp [putF]
      | cons z s => simp [putF]
    · have hn : n ∈ r := by
        rcases List.mem_cons.1 h3 with e | h
        · exact absurd e.symm hy
        · exact h
      have ih := putF_back h1'.2 h2.2 hn
      have e : withoutF n (y :: r) = y :: withoutF n r := by
        unfold withoutF
        rw [List.filter_cons_of_pos (by simpa using hy)]
      rw [e]
      unfold behindF
      rw [if_neg hy]
      have hb : y ≠ behindF n r := by
        intro hc
        have key : ∀ (m : List Int), behindF n m = 0 ∨ behindF n m ∈ m := by
          intro m
          induction m with
          | nil => exact .inl rfl
          | cons x s ihm =>
            unfold behindF
            split
            · cases s with
              | nil => exact .inl rfl
              | cons z s => exact .inr (by simp)
            · rcases ihm with h | h
              · exact .inl h
              · exact .inr (List.mem_cons_of_mem _ h)
        rcases key r with h | h
        · exact h2.1 (by rw [hc, h])
        · exact h1'.1 (by rw [hc]; exact h)
      rw [putF, if_neg hb, ih]
theorem kidG_twice (p : Int) (ks ms : List Int) (b : Br) : kidG p ms (kidG p ks b) = kidG p ms b := by
  unfold kidG
  by_cases h : b.id = p <;> simp [h]
/-- Children set, and set back. -/
theorem setK_back {t : Tr} (h : idsAsc t.brs) (p : Int) (ks : List Int) : setK (setK t p ks) p (childs t p) = t := by
  by_cases h0 : p = 0
  · subst h0
    simp [setK, childs]
  · have e : ∀ (u : Tr) (ms : List Int), setK u p ms = ⟨u.roots, u.brs.map (kidG p ms)⟩ := fun u ms => by
      unfold setK kidG
      rw [if_neg h0]
    rw [e, e]
    simp only [List.map_map]
    have hm : t.brs.map (kidG p (childs t p) ∘ kidG p ks) = t.brs := by
      have key : ∀ l : List Br, (∀ b ∈ l, b ∈ t.brs) → l.map (kidG p (childs t p) ∘ kidG p ks) = l := by
        intro l
        induction l with
        | nil => intro _; rfl
        | cons b r ih =>
          intro hl
          rw [List.map_cons, ih fun c hc => hl c (List.mem_cons_of_mem _ hc)]
          congr 1
          rw [Function.comp, kidG_twice]
          unfold kidG
          by_cases hb : b.id = p
          · rw [if_pos hb, ← hb, childs_of h (hl b (List.mem_cons_self ..)) (by rw [hb]; exact h0)]
          · rw [if_neg hb]
      exact key _ fun _ h => h
    rw [hm]
theorem filter_insB (b : Br) : ∀ {l : List Br}, (∀ c ∈ l, c.id ≠ b.id) → (insB b l).filter (fun c => !(c.id == b.id)) = l
  | [], _ => by simp [insB]
  | y :: r, h => by
    have hy := h y (List.mem_cons_self ..)
    have hr : ∀ c ∈ r, c.id ≠ b.id := fun c hc => h c (List.mem_cons_of_mem _ hc)
    unfold insB
    split
    · rw [List.filter_cons_of_pos (by simpa using hy), filter_insB b hr]
    · rw [List.filter_cons_of_neg (by simp), List.filter_cons_of_pos (by simpa using hy)]
      congr 1
      rw [List.filter_eq_self]
      exact fun c hc => by simpa using hr c hc
theorem map_insB (g : Br → Br) (hg : ∀ b, (g b).id = b.id) (b : Br) : ∀ l : List Br, (insB b l).map g = insB (g b) (l.map g)
  | [] => rfl
  | y :: r => by
    rw [List.map_cons, insB, insB, hg, hg]
    split
    · rw [List.map_cons, map_insB g hg b r]
    · rw [List.map_cons, List.map_cons]
/-- What was created and is removed again leaves the tree as it was. -/
theorem remove_create {t : Tr} {o o2 : Opn} (h : SoundM t) (hc : CanCreate t o) (h2 : o2.unit = o.unit) : removeT (createT t o) o2 ⟨o.unit, o.parent, o.level, o.title, o.mark, []⟩ = t := by
  have hC := ((sound_parts t).1 h).1
  have hK := ((sound_parts t).1 h).2
  have hp := stands_there hc.stands
  have hu0 : o.unit ≠ 0 := unit_pos hc.unit
  have hpu : o.parent ≠ o.unit := fun e => by
    rcases hp with h1 | ⟨b, hb, e2⟩
    · exact hu0 (by rw [← e]; exact h1)
    · exact hc.new b hb (by rw [e2]; exact e)
  have hun : o.unit ∉ childs t o.parent := fun hm => by
    obtain ⟨b, hb, _, e⟩ := ((hK o.parent hp).2 o.unit).1 hm
    exact hc.new b hb e
  have hT1 := setK_core o.parent (putF o.unit o.before (childs t o.parent)) hC
  have hn1 : ∀ c ∈ (setK t o.parent (putF o.unit o.before (childs t o.parent))).brs, c.id ≠ o.unit := fun c hcm e => by
    obtain ⟨d, hd, hde⟩ := (setK_ids t o.parent (putF o.unit o.before (childs t o.parent)) o.unit).1 ⟨c, hcm, e⟩
    exact hc.new d hd hde
  have hch : childs (createT t o) o.parent = putF o.unit o.before (childs t o.parent) := by
    unfold createT
    simp only
    rw [childs_insB hT1.asc _ hn1 hu0, if_neg hpu, setK_childs _ _ _ hp, if_pos rfl]
  have hback := setK_back hC.asc o.parent (putF o.unit o.before (childs t o.parent))
  unfold removeT
  simp only
  rw [hch, h2, without_putF _ _ hun]
  have hset : setK (createT t o) o.parent (childs t o.parent) = ⟨t.roots, insB ⟨o.unit, o.parent, o.level, o.title, o.mark, []⟩ t.brs⟩ := by
    unfold createT
    simp only
    generalize hs : setK t o.parent (putF o.unit o.before (childs t o.parent)) = t1 at hback hn1 ⊢
    by_cases h0 : o.parent = 0
    · have e : t1.brs = t.brs := by
        rw [← hs, setK_brs, if_pos h0]
      unfold setK
      rw [if_pos h0, e]
      unfold childs
      rw [if_pos h0]
    · have e1 : t1.roots = t.roots := by
        rw [← hs]
        unfold setK
        rw [if_neg h0]
      have e2 : t1.brs.map (kidG o.parent (childs t o.parent)) = t.brs := by
        have := congrArg Tr.brs hback
        rw [setK_brs, if_neg h0] at this
        exact this
      have e3 : setK ⟨t1.roots, insB ⟨o.unit, o.parent, o.level, o.title, o.mark, []⟩ t1.brs⟩ o.parent (childs t o.parent) = ⟨t1.roots, (insB ⟨o.unit, o.parent, o.level, o.title, o.mark, []⟩ t1.brs).map (kidG o.parent (childs t o.parent))⟩ := by
        unfold setK kidG
        rw [if_neg h0]
      rw [e3, map_insB _ (fun b => (core_all (kidG_core _ _ b)).1), e2, e1]
      congr 2
      unfold kidG
      rw [if_neg (fun e => hpu e.symm)]
  rw [hset]
  simp only
  rw [filter_insB ⟨o.unit, o.parent, o.level, o.title, o.mark, []⟩ hc.new]
end Go.Proofs.YtafncfomiolmgaaGreatDoor

/- Trees with the same units and the same lists of children are the same; the way back of removing and of moving. No condition. -/
namespace Go.Proofs.YtafncfomiolmgaaGreatDoor
open Go.RowKit

theorem br_ext {a b : Br} (h : core a = core b) (hk : a.kids = b.kids) : a = b := by
  obtain ⟨h1, h2, h3, h4, h5⟩ := core_all h
  obtain ⟨a0, a1, a2, a3, a4, a5⟩ := a
  obtain ⟨b0, b1, b2, b3, b4, b5⟩ := b
  simp only at h1 h2 h3 h4 h5 hk
  subst h1 h2 h3 h4 h5 hk
  rfl
theorem asc_core {l m : List Br} (h : idsAsc l) (hc : l.map core = m.map core) : idsAsc m := by
  have h1 : (l.map core).map Br.id = (m.map core).map Br.id := by rw [hc]
  have h2 : l.map Br.id = m.map Br.id := by simpa [List.map_map, Function.comp_def, core] using h1
  have h3 : (l.map Br.id).Pairwise (· < ·) := List.Pairwise.map _ (fun _ _ h => h) h
  rw [h2, List.pairwise_map] at h3
  exact h3
theorem tree_ext {t u : Tr} (h : idsAsc t.brs) (h0 : ∀ b ∈ t.brs, b.id ≠ 0) (hc : t.brs.map core = u.brs.map core) (hk : ∀ q, (q = 0 ∨ ∃ b ∈ t.brs, b.id = q) → childs t q = childs u q) : t = u := by
  have hu := asc_core h hc
  have hr : t.roots = u.roots := by
    have := hk 0 (.inl rfl)
    unfold childs at this
    simpa using this
  have hl : t.brs.length = u.brs.length := by
    have := congrArg List.length hc
    simpa using this
  have hb : t.brs = u.brs := by
    refine List.ext_getElem hl fun i h1 h2 => ?_
    have hci : core t.brs[i] = core u.brs[i] := by
      have e1 : (t.brs.map core)[i]'(by simpa using h1) = (u.brs.map core)[i]'(by simpa using h2) := by
        congr 1
      simpa using e1
    have hid := (core_all hci).1
    refine br_ext hci ?_
    have h3 := hk t.brs[i].id (.inr ⟨_, List.getElem_mem h1, rfl⟩)
    rw [childs_of h (List.getElem_mem h1) (h0 _ (List.getElem_mem h1)), hid, childs_of hu (List.getElem_mem h2) (by rw [← hid]; exact h0 _ (List.getElem_mem h1))] at h3
    exact h3
  obtain ⟨tr, tb⟩ := t
  obtain ⟨ur, ub⟩ := u
  simp only at hr hb
  rw [hr, hb]
theorem core_setK (t : Tr) (p : Int) (ks : List Int) : (setK t p ks).brs.map core = t.brs.map core := by
  rw [setK_brs]
  split
  · rfl
  · rw [List.map_map]
    congr 1
    funext b
    exact kidG_core p ks b
theorem core_setU (t : Tr) (n : Int) (f : Br → Br) (hf : ∀ b, core (f b) = core (f (core b))) : (setU t n f).brs.map core = (t.brs.map core).map fun b => if b.id = n then core (f b) else b := by
  unfold setU
  rw [List.map_map, List.map_map]
  congr 1
  funext b
  show core (if b.id = n then f b else b) = if (core b).id = n then core (f (core b)) else core b
  by_cases h : b.id = n
  · rw [if_pos h, if_pos (show (core b).id = n from h), hf]
  · rw [if_neg h, if_neg (show ¬ (core b).id = n from h)]
/-- The units behind a move, without their children. -/
theorem core_moved (t : Tr) (o : Opn) (u : Br) : (moveT t o u).brs.map core = (t.brs.map core).map fun b => if b.id = o.unit then { b with parent := o.parent, kids := [] } else b := by
  unfold moveT
  simp only
  rw [core_setU _ _ _ (fun b => rfl), core_setK, core_setK]
  rfl
/-- What was moved and is moved back leaves the tree as it was. -/
theorem move_back {t : Tr} {o o2 : Opn} {u v : Br} (h : SoundM t) (hc : CanMove t o u) (hc2 : CanMove (moveT t o u) o2 v) (h1 : o2.unit = o.unit) (h2 : o2.parent = u.parent) (h3 : o2.before = behindF o.unit (childs t u.parent)) : moveT (moveT t o u) o2 v = t := by
  obtain ⟨hC, hK⟩ := (sound_parts t).1 h
  have hM := move_sound h hc
  have hpu := parent_there h hc.mem
  have hpo := stands_there hc.stands
  have hcore : (moveT (moveT t o u) o2 v).brs.map core = t.brs.map core := by
    rw [core_moved, core_moved, List.map_map, List.map_map]
    refine List.map_congr_left fun b hb => ?_
    show (if (if (core b).id = o.unit then ({ core b with parent := o.parent, kids := [] } : Br) else core b).id = o2.unit then ({ (if (core b).id = o.unit then ({ core b with parent := o.parent, kids := [] } : Br) else core b) with parent := o2.parent, kids := [] } : Br) else (if (core b).id = o.unit then ({ core b with parent := o.parent, kids := [] } : Br) else core b)) = core b
    by_cases hbu : b.id = o.unit
    · have hbu' : (core b).id = o.unit := hbu
      have := asc_same hC.asc hb hc.mem (by rw [hbu, hc.id])
      subst this
      rw [if_pos hbu', if_pos (by rw [h1]; exact hbu), h2]
      rfl
    · have hbu' : ¬ (core b).id = o.unit := hbu
      rw [if_neg hbu', if_neg (by rw [h1]; exact hbu')]
  have hasc := asc_core hC.asc hcore.symm
  have hids : ∀ q, (∃ b ∈ t.brs, b.id = q) ↔ ∃ b ∈ (moveT t o u).brs, b.id = q := by
    have e : (moveT t o u).brs.map Br.id = t.brs.map Br.id := by
      have := congrArg (fun l => l.map Br.id) (core_moved t o u)
      simp only [List.map_map] at this
      have e1 : (moveT t o u).brs.map (Br.id ∘ core) = (moveT t o u).brs.map Br.id := rfl
      rw [e1] at this
      rw [this]
      refine List.map_congr_left fun b _ => ?_
      show (if (core b).id = o.unit then ({ core b with parent := o.parent, kids := [] } : Br) else core b).id = b.id
      split <;> rfl
    intro q
    rw [← List.mem_map (f := Br.id), ← List.mem_map (f := Br.id), e]
  refine (tree_ext hC.asc (fun b hb => unit_pos (hC.units b hb)) hcore.symm fun q hq => ?_).symm
  have hq2 : q = 0 ∨ ∃ b ∈ (moveT t o u).brs, b.id = q := hq.imp id fun h => (hids q).1 h
  have hpu2 : o2.parent = 0 ∨ ∃ b ∈ (moveT t o u).brs, b.id = o2.parent := by rw [h2]; exact hpu.imp id fun h => (hids _).1 h
  -- the list of children of each parent without the unit is the same in both trees
  have hun : ∀ q, (q = 0 ∨ ∃ b ∈ t.brs, b.id = q) → q ≠ u.parent → o.unit ∉ childs t q := fun q hq hne hm => by
    obtain ⟨b, hb, h4, h5⟩ := (childs_mem h hq).1 hm
    have := asc_same hC.asc hb hc.mem (by rw [h5, hc.id])
    subst this
    exact hne h4.symm
  have hw : ∀ q, (q = 0 ∨ ∃ b ∈ t.brs, b.id = q) → withoutF o.unit (childs (moveT t o u) q) = withoutF o.unit (childs t q) := fun q hq => by
    have hidem : ∀ l : List Int, o.unit ∉ withoutF o.unit l := fun l hm => by rw [mem_without] at hm; exact hm.2 rfl
    rw [childs_moved h hc q hq]
    by_cases hqo : q = o.parent
    · rw [if_pos hqo, without_putF _ _ (hidem _), hqo]
    · rw [if_neg hqo, without_no (hidem _)]
  rw [childs_moved hM hc2 q hq2, h1]
  by_cases hqp : q = u.parent
  · rw [if_pos (by rw [h2]; exact hqp), h2, hw u.parent hpu, h3, hqp]
    have hku := hK u.parent hpu
    refine (putF_back hku.1 (fun hm => ?_) ((hku.2 _).2 ⟨u, hc.mem, rfl, hc.id⟩)).symm
    obtain ⟨b, hb, _, e⟩ := (hku.2 0).1 hm
    exact unit_pos (hC.units b hb) e
  · rw [if_neg (by rw [h2]; exact hqp), hw q hq, without_no (hun q hq hqp)]
end Go.Proofs.YtafncfomiolmgaaGreatDoor

/- What was removed and is created again, and what was named anew and is named back. No condition. -/
namespace Go.Proofs.YtafncfomiolmgaaGreatDoor
open Go.RowKit

theorem insB_filter {u : Br} : ∀ {l : List Br}, idsAsc l → u ∈ l → insB u (l.filter fun c => !(c.id == u.id)) = l
  | [], _, h => by cases h
  | y :: r, h, hu => by
    have h' := List.pairwise_cons.1 h
    by_cases hy : y.id = u.id
    · have hyu := asc_same h (List.mem_cons_self ..) hu hy
      subst hyu
      have hr : r.filter (fun c => !(c.id == y.id)) = r := by
        rw [List.filter_eq_self]
        intro c hc
        have := h'.1 c hc
        simp
        omega
      rw [List.filter_cons_of_neg (by simp), hr]
      cases r with
      | nil => rfl
      | cons z s =>
        have := h'.1 z (List.mem_cons_self ..)
        rw [insB, if_neg (by omega)]
    · have hur : u ∈ r := by
        rcases List.mem_cons.1 hu with e | h
        · exact absurd (by rw [e]) hy
        · exact h
      have := h'.1 u hur
      rw [List.filter_cons_of_pos (by simpa using hy), insB, if_pos this, insB_filter h'.2 hur]
/-- What was removed and is created again leaves the tree as it was. -/
theorem create_remove {t : Tr} {o o2 : Opn} {u : Br} (h : SoundM t) (hu : u ∈ t.brs) (hid : u.id = o.unit) (hk : u.kids = []) (h1 : o2.unit = o.unit) (h2 : o2.parent = u.parent) (h3 : o2.before = behindF o.unit (childs t u.parent)) (h4 : o2.level = u.level) (h5 : o2.title = u.title) (h6 : o2.mark = u.mark) : createT (removeT t o u) o2 = t := by
  obtain ⟨hC, hK⟩ := (sound_parts t).1 h
  have hR := remove_sound (o := o) h hu hid hk
  have hCR := ((sound_parts _).1 hR).1
  have hu0 : o.unit ≠ 0 := by rw [← hid]; exact unit_pos (hC.units u hu)
  have hp := parent_there h hu
  have hno : ∀ c ∈ t.brs, c.parent ≠ o.unit := fun c hc e => by
    have := (childs_mem h (n := o.unit) (x := c.id) (.inr ⟨u, hu, hid⟩)).2 ⟨c, hc, e, rfl⟩
    rw [← hid, childs_of hC.asc hu (by rw [hid]; exact hu0), hk] at this
    cases this
  have hnb : (⟨o2.unit, o2.parent, o2.level, o2.title, o2.mark, []⟩ : Br) = core u := by
    rw [h1, h2, h4, h5, h6, ← hid]
    rfl
  have hrb : (removeT t o u).brs.map core = (t.brs.map core).filter fun c => !(c.id == (core u).id) := by
    unfold removeT
    simp only
    have e : ∀ l : List Br, (l.filter fun b => !(b.id == o.unit)).map core = (l.map core).filter fun c => !(c.id == (core u).id) := by
      intro l
      rw [List.filter_map]
      congr 1
      congr 1
      funext b
      show (!(b.id == o.unit)) = !((core b).id == (core u).id)
      have e1 : (core b).id = b.id := rfl
      have e2 : (core u).id = o.unit := hid
      rw [e1, e2]
    rw [e, core_setK]
  have hascc : idsAsc (t.brs.map core) := List.Pairwise.map _ (fun _ _ h => h) hC.asc
  have hcore : (createT (removeT t o u) o2).brs.map core = t.brs.map core := by
    unfold createT
    simp only
    rw [map_insB core (fun _ => rfl), core_setK, hrb, hnb]
    exact insB_filter hascc (List.mem_map.2 ⟨u, hu, rfl⟩)
  have hids : ∀ q, (∃ b ∈ (removeT t o u).brs, b.id = q) ↔ (∃ b ∈ t.brs, b.id = q) ∧ q ≠ o.unit := by
    intro q
    unfold removeT
    simp only [List.mem_filter, Bool.not_eq_true', beq_eq_false_iff_ne]
    constructor
    · rintro ⟨b, ⟨hb, hne⟩, e⟩
      exact ⟨(setK_ids t u.parent (withoutF o.unit (childs t u.parent)) q).1 ⟨b, hb, e⟩, by rw [← e]; exact hne⟩
    · rintro ⟨hx, hne⟩
      obtain ⟨b, hb, e⟩ := (setK_ids t u.parent (withoutF o.unit (childs t u.parent)) q).2 hx
      exact ⟨b, ⟨hb, by rw [e]; exact hne⟩, e⟩
  have hpn : u.parent ≠ o.unit := hno u hu
  have hpr : o2.parent = 0 ∨ ∃ b ∈ (removeT t o u).brs, b.id = o2.parent := by
    rw [h2]
    rcases hp with h | h
    · exact .inl h
    · exact .inr ((hids _).2 ⟨h, hpn⟩)
  have hnew : ∀ c ∈ (removeT t o u).brs, c.id ≠ o2.unit := fun c hc e => ((hids c.id).1 ⟨c, hc, rfl⟩).2 (by rw [e, h1])
  have hrc : ∀ q, q ≠ o.unit → (q = 0 ∨ ∃ b ∈ t.brs, b.id = q) → childs (removeT t o u) q = withoutF o.unit (childs t q) := fun q hne hq => by
    have hx := childs_taken h hu q hq
    rw [hid] at hx
    rw [← hx]
    unfold removeT childs
    simp only
    split
    · rfl
    · rename_i h0
      have hf1 := setK_core u.parent (withoutF o.unit (childs t u.parent)) hC
      unfold childs at hf1
      generalize setK t u.parent (withoutF o.unit (if u.parent = 0 then t.roots else match brFind t.brs u.parent with
        | none => []
        | some b => b.kids)) = s at hf1 ⊢
      have hasc2 : idsAsc (s.brs.filter fun b => !(b.id == o.unit)) := List.Pairwise.filter _ hf1.asc
      cases hf : brFind s.brs q with
      | none => rw [(find_none q).2 (fun c hc => (find_none q).1 hf c (List.mem_filter.1 hc).1)]
      | some b =>
        have hb := find_in hf
        rw [(find_iff hasc2 q b).2 ⟨List.mem_filter.2 ⟨hb.1, by simp [hb.2, hne]⟩, hb.2⟩]
  refine (tree_ext hC.asc (fun b hb => unit_pos (hC.units b hb)) hcore.symm fun q hq => ?_).symm
  have hT2 := setK_core o2.parent (putF o2.unit o2.before (childs (removeT t o u) o2.parent)) hCR
  have hn2 : ∀ c ∈ (setK (removeT t o u) o2.parent (putF o2.unit o2.before (childs (removeT t o u) o2.parent))).brs, c.id ≠ o2.unit := fun c hc e => by
    obtain ⟨d, hd, hde⟩ := (setK_ids _ _ _ o2.unit).1 ⟨c, hc, e⟩
    exact hnew d hd hde
  unfold createT
  simp only
  rw [childs_insB hT2.asc _ hn2 (by rw [h1]; exact hu0), setK_childs _ _ _ hpr, h1]
  simp only
  by_cases hqu : q = o.unit
  · rw [if_pos hqu, hqu, ← hid, childs_of hC.asc hu (by rw [hid]; exact hu0), hk]
  · rw [if_neg hqu, h2]
    by_cases hqp : q = u.parent
    · rw [if_pos hqp, hrc u.parent hpn hp, h3, hqp]
      have hku := hK u.parent hp
      refine (putF_back hku.1 (fun hm => ?_) ((hku.2 _).2 ⟨u, hu, rfl, hid⟩)).symm
      obtain ⟨b, hb, _, e⟩ := (hku.2 0).1 hm
      exact unit_pos (hC.units b hb) e
    · rw [if_neg hqp, hrc q hqu hq, without_no]
      intro hm
      obtain ⟨b, hb, h7, h8⟩ := (childs_mem h hq).1 hm
      have := asc_same hC.asc hb hu (by rw [h8, hid])
      subst this
      exact hqp h7.symm
/-- What was named anew and is named back leaves the tree as it was. -/
theorem label_back {t : Tr} (h : idsAsc t.brs) {u : Br} (hu : u ∈ t.brs) (f g : Br → Br) (hf : ∀ b, (f b).id = b.id) (hg : g (f u) = u) : setU (setU t u.id f) u.id g = t := by
  unfold setU
  simp only [List.map_map]
  have key : t.brs.map ((fun b => if b.id = u.id then g b else b) ∘ fun b => if b.id = u.id then f b else b) = t.brs := by
    have k : ∀ l : List Br, (∀ b ∈ l, b ∈ t.brs) → l.map ((fun b => if b.id = u.id then g b else b) ∘ fun b => if b.id = u.id then f b else b) = l := by
      intro l
      induction l with
      | nil => intro _; rfl
      | cons b r ih =>
        intro hl
        rw [List.map_cons, ih fun c hc => hl c (List.mem_cons_of_mem _ hc)]
        congr 1
        rw [Function.comp]
        by_cases hb : b.id = u.id
        · have := asc_same h (hl b (List.mem_cons_self ..)) hu hb
          subst this
          rw [if_pos rfl, if_pos (hf b), hg]
        · rw [if_neg hb, if_neg hb]
    exact k _ fun _ h => h
  rw [key]
end Go.Proofs.YtafncfomiolmgaaGreatDoor

/- What is changed between two trees, plainly; an operation changes its own unit alone. No condition. -/
namespace Go.Proofs.YtafncfomiolmgaaGreatDoor
open Go.RowKit

/-- The units that are not the same in two trees, in order. -/
structure ChgIs (a b : Tr) (l : List Int) : Prop where
  asc : Asc l
  mem : ∀ n, n ∈ l ↔ brFind (a.brs.map core) n ≠ brFind (b.brs.map core) n
theorem chg_unique {a b : Tr} {l m : List Int} (h : ChgIs a b l) (k : ChgIs a b m) : l = m := asc_ext h.asc k.asc fun n => by rw [h.mem, k.mem]
theorem chg_symm {a b : Tr} {l : List Int} (h : ChgIs a b l) : ChgIs b a l := ⟨h.asc, fun n => by rw [h.mem]; exact ⟨Ne.symm, Ne.symm⟩⟩
theorem chg_one {a b : Tr} {l : List Int} {u : Int} (h : ChgIs a b l) (hu : ∀ n, n ≠ u → brFind (b.brs.map core) n = brFind (a.brs.map core) n) : l = [] ∨ l = [u] := by
  have hm : ∀ n ∈ l, n = u := fun n hn => Classical.byContradiction fun hne => (h.mem n).1 hn (hu n hne).symm
  cases l with
  | nil => exact .inl rfl
  | cons x r =>
    have hx := hm x (List.mem_cons_self ..)
    cases r with
    | nil => exact .inr (by rw [hx])
    | cons y s =>
      have hy := hm y (by simp)
      have := (List.pairwise_cons.1 h.asc).1 y (List.mem_cons_self ..)
      omega
theorem find_insB (b : Br) {n : Int} (hn : n ≠ b.id) : ∀ l : List Br, brFind (insB b l) n = brFind l n
  | [] => by
    unfold insB brFind
    rw [List.find?_cons_of_neg (by simpa using fun e => hn e.symm)]
  | y :: r => by
    have ih := find_insB b hn r
    unfold insB
    split
    · unfold brFind at ih ⊢
      rw [List.find?_cons, List.find?_cons, ih]
    · unfold brFind
      rw [List.find?_cons_of_neg (by simpa using fun e => hn e.symm)]
theorem find_without {n u : Int} (hn : n ≠ u) : ∀ l : List Br, brFind (l.filter fun b => !(b.id == u)) n = brFind l n
  | [] => rfl
  | y :: r => by
    have ih := find_without hn r
    by_cases hy : y.id = u
    · rw [List.filter_cons_of_neg (by simp [hy]), ih]
      unfold brFind
      rw [List.find?_cons_of_neg (by rw [hy]; simpa using fun e => hn e.symm)]
    · rw [List.filter_cons_of_pos (by simpa using hy)]
      unfold brFind at ih ⊢
      rw [List.find?_cons, List.find?_cons, ih]
theorem find_mapU {n u : Int} (hn : n ≠ u) (f : Br → Br) (hf : ∀ b, (f b).id = b.id) : ∀ l : List Br, brFind (l.map fun b => if b.id = u then f b else b) n = brFind l n
  | [] => rfl
  | y :: r => by
    have ih := find_mapU hn f hf r
    unfold brFind at ih ⊢
    rw [List.map_cons, List.find?_cons, List.find?_cons, ih]
    by_cases hy : y.id = u
    · rw [if_pos hy, hf]
      have : (y.id == n) = false := by rw [hy]; simpa using fun e => hn e.symm
      rw [this]
    · rw [if_neg hy]
/-- An operation leaves all other units as they are. -/
theorem newT_find {t : Tr} {o : Opn} {n : Int} (hn : n ≠ o.unit) : brFind ((newT t o).brs.map core) n = brFind (t.brs.map core) n := by
  unfold newT
  split
  · unfold createT
    simp only
    rw [map_insB core (fun _ => rfl), core_setK]
    exact find_insB _ hn _
  · cases hb : brFind t.brs o.unit with
    | none => rfl
    | some u =>
      simp only
      split
      · rw [core_moved]
        exact find_mapU hn (fun b => { b with parent := o.parent, kids := [] }) (fun _ => rfl) _
      · split
        · unfold removeT
          simp only
          have e : ∀ l : List Br, (l.filter fun b => !(b.id == o.unit)).map core = (l.map core).filter fun c => !(c.id == o.unit) := fun l => by
            rw [List.filter_map]
            rfl
          rw [e, core_setK]
          exact find_without hn _
        · split
          · rw [core_setU _ _ _ (fun _ => rfl)]
            exact find_mapU hn (fun b => core { b with title := o.title }) (fun _ => rfl) _
          · rw [core_setU _ _ _ (fun _ => rfl)]
            exact find_mapU hn (fun b => core { b with mark := o.mark }) (fun _ => rfl) _
end Go.Proofs.YtafncfomiolmgaaGreatDoor

/- No fault means that an operation may be done, and the other way round. No condition. -/
namespace Go.Proofs.YtafncfomiolmgaaGreatDoor
open Go.RowKit

theorem can_create {t : Tr} {o : Opn} (h : SoundM t) (hf : formedO o = true) (h1 : o.kind = 1) (h0 : faultO t o = 0) : CanCreate t o := by
  obtain ⟨hC, hK⟩ := (sound_parts t).1 h
  unfold formedO at hf
  simp only [Bool.and_eq_true] at hf
  obtain ⟨-, -, hu, hk⟩ := hf
  unfold kindF at hk
  unfold faultO at h0
  rw [if_pos h1] at hk h0
  simp only [Bool.and_eq_true] at hk
  unfold faultC at h0
  split at h0
  · simp at h0
  rename_i e1
  split at h0
  · simp at h0
  split at h0
  · simp at h0
  rename_i e3
  split at h0
  · simp at h0
  rename_i e4
  split at h0
  · simp at h0
  rename_i e5
  split at h0
  · simp at h0
  rename_i e6
  refine ⟨?_, ⟨hu, hk.2.1, hk.2.2.1, markE_ok hk.2.2.2.1⟩, (stands_iff hC.asc _ _).1 (by simpa using e3), fun hb => ?_, fun c hc hne => ?_, by omega⟩
  · have : brFind t.brs o.unit = none := by simpa using e1
    exact (find_none _).1 this
  · by_cases hm : o.before ∈ childs t o.parent
    · exact hm
    · exact absurd ⟨hb, hm⟩ e4
  · exact (used_no (by simpa using e5) c hc (fun e => unit_pos (hC.units c hc) e) hne).symm
theorem can_move {t : Tr} {o : Opn} {u : Br} (h : SoundM t) (h2 : o.kind = 2) (h0 : faultO t o = 0) (hb : brFind t.brs o.unit = some u) : CanMove t o u := by
  obtain ⟨hC, hK⟩ := (sound_parts t).1 h
  have hin := find_in hb
  unfold faultO at h0
  rw [if_neg (by rw [h2]; decide), if_pos h2] at h0
  unfold faultM at h0
  rw [hb] at h0
  simp only at h0
  split at h0
  · simp at h0
  split at h0
  · simp at h0
  rename_i e2
  split at h0
  · simp at h0
  rename_i e3
  split at h0
  · simp at h0
  rename_i e4
  refine ⟨hin.1, hin.2, (stands_iff hC.asc _ _).1 (by simpa using e3), fun hud => ?_, fun hbf => ?_⟩
  · rw [← hin.2] at hud e2
    exact e2 ((mem_below h hin.1 _).2 hud)
  · rw [mem_without]
    by_cases hm : o.before ∈ childs t o.parent
    · exact ⟨hm, fun e => e4 ⟨hbf, .inl e⟩⟩
    · exact absurd ⟨hbf, .inr hm⟩ e4
theorem find_some_of {l : List Br} {p : Int} (h : p = 0 ∨ ∃ b ∈ l, b.id = p) : ¬ (p ≠ 0 ∧ (brFind l p).isSome = false) := by
  rintro ⟨h1, h2⟩
  have hn : brFind l p = none := by simpa using h2
  rcases h with h | ⟨b, hb, e⟩
  · exact h1 h
  · exact (find_none p).1 hn b hb e
theorem fault_create {t : Tr} {o : Opn} (h : SoundM t) (hc : CanCreate t o) : faultC t o = 0 := by
  have hC := ((sound_parts t).1 h).1
  have e1 : brFind t.brs o.unit = none := (find_none _).2 hc.new
  have e3 := (stands_iff hC.asc _ _).2 hc.stands
  have e5 : usedB t o.mark 0 = false := by
    unfold usedB
    by_cases hm : o.mark.toList.isEmpty = true
    · rw [hm]
      rfl
    · have hm : o.mark.toList.isEmpty = false := by simpa using hm
      rw [hm]
      simp only [Bool.not_false, Bool.true_and, List.any_eq_false]
      intro b hb
      have := hc.mark b hb hm
      simp [this]
  have hroom := hc.room
  unfold faultC
  rw [e1, e3, e5, if_neg (by simp), if_neg (find_some_of (stands_there hc.stands)), if_neg (by simp), if_neg (fun hx => hx.2 (hc.before hx.1)), if_neg (by simp), if_neg (by omega)]
theorem fault_move {t : Tr} {o : Opn} {u : Br} (h : SoundM t) (hc : CanMove t o u) : faultM t o = 0 := by
  have hC := ((sound_parts t).1 h).1
  have e1 : brFind t.brs o.unit = some u := (find_iff hC.asc _ _).2 ⟨hc.mem, hc.id⟩
  have e3 := (stands_iff hC.asc _ _).2 hc.stands
  have e2 : o.parent ∉ belowT t o.unit := fun hm => by
    rw [← hc.id] at hm
    have := (mem_below h hc.mem _).1 hm
    rw [hc.id] at this
    exact hc.notBelow this
  unfold faultM
  rw [e1]
  simp only
  rw [e3, if_neg (find_some_of (stands_there hc.stands)), if_neg e2, if_neg (by simp), if_neg]
  rintro ⟨h1, h2⟩
  have := (mem_without _ _ _).1 (hc.before h1)
  rcases h2 with h2 | h2
  · exact this.2 h2
  · exact h2 this.1
end Go.Proofs.YtafncfomiolmgaaGreatDoor
