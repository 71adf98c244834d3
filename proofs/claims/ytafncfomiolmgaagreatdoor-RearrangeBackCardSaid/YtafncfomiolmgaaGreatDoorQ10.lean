/- Lemmas on what the functions of the program and of the library compute: PlainLo, PlainOp, PlainOb, PlainOc, PlainOd, PlainRt, Es4, Es5, DelB. The conditions stand at each. -/
import Derived.Test.YtafncfomiolmgaaGreatDoorQ9
import Derived.Test.YtafncfomiolmgaaGreatDoorQ8
import Derived.Test.YtafncfomiolmgaaGreatDoorQ2
import Derived.Test.YtafncfomiolmgaaGreatDoorQ7
/- An operation keeps the order of the children that stay together. No condition. -/
namespace Go.Proofs.YtafncfomiolmgaaGreatDoor
open Go.RowKit

theorem without_idem (n : Int) (l : List Int) : withoutF n (withoutF n l) = withoutF n l := without_no fun hm => ((mem_without _ _ _).1 hm).2 rfl
theorem childs_created {t : Tr} {o : Opn} (h : SoundM t) (hc : CanCreate t o) (q : Int) (hq : q ≠ o.unit) : childs (createT t o) q = if q = o.parent then putF o.unit o.before (childs t o.parent) else childs t q := by
  have hC := ((sound_parts t).1 h).1
  have hT1 := setK_core o.parent (putF o.unit o.before (childs t o.parent)) hC
  have hn1 : ∀ c ∈ (setK t o.parent (putF o.unit o.before (childs t o.parent))).brs, c.id ≠ o.unit := fun c hcm e => by
    obtain ⟨d, hd, hde⟩ := (setK_ids t o.parent (putF o.unit o.before (childs t o.parent)) o.unit).1 ⟨c, hcm, e⟩
    exact hc.new d hd hde
  unfold createT
  simp only
  rw [childs_insB hT1.asc _ hn1 (unit_pos hc.unit), if_neg hq, setK_childs _ _ _ (stands_there hc.stands)]
theorem childs_removed {t : Tr} {o : Opn} {u : Br} (h : SoundM t) (hu : u ∈ t.brs) (hid : u.id = o.unit) (q : Int) (hne : q ≠ o.unit) (hq : q = 0 ∨ ∃ b ∈ t.brs, b.id = q) : childs (removeT t o u) q = withoutF o.unit (childs t q) := by
  have hC := ((sound_parts t).1 h).1
  have hx := childs_taken h hu q hq
  rw [hid] at hx
  rw [← hx]
  unfold removeT childs
  simp only
  split
  · rfl
  · have hf1 := setK_core u.parent (withoutF o.unit (childs t u.parent)) hC
    unfold childs at hf1
    generalize setK t u.parent (withoutF o.unit (if u.parent = 0 then t.roots else match brFind t.brs u.parent with
      | none => []
      | some b => b.kids)) = s at hf1 ⊢
    have hasc2 : idsAsc (s.brs.filter fun b => !(b.id == o.unit)) := List.Pairwise.filter _ hf1.asc
    cases hf : brFind s.brs q with
    | none => rw [(find_none q).2 (fun c hc => (find_none q).1 hf c (List.mem_filter.1 hc).1)]
    | some b =>
      have hb := find_in hf
      rw [(find_iff hasc2 q b).2 ⟨List.mem_filter.2 ⟨hb.1, by simp [hb.2, hne]⟩, hb.2⟩]
theorem childs_setU (t : Tr) (n : Int) (f : Br → Br) (hf : ∀ b, (f b).id = b.id ∧ (f b).kids = b.kids) (q : Int) : childs (setU t n f) q = childs t q := by
  have e1 : ∀ b : Br, (if b.id = n then f b else b).id = b.id := fun b => by split; exact (hf b).1; rfl
  have e4 : ∀ b : Br, (if b.id = n then f b else b).kids = b.kids := fun b => by split; exact (hf b).2; rfl
  unfold childs setU
  split
  · rfl
  · show (match brFind (t.brs.map fun b => if b.id = n then f b else b) q with
      | none => []
      | some b => b.kids) = _
    rw [find_map _ e1]
    cases brFind t.brs q with
    | none => rfl
    | some b => exact e4 b
/-- An operation keeps the order of the children that stay together. -/
theorem newT_rest {t : Tr} {o : Opn} (h : SoundM t) (hf : formedO o = true) (h0 : faultO t o = 0) {q : Int} (hq : q = 0 ∨ ∃ b ∈ t.brs, b.id = q) (hne : q ≠ o.unit) : withoutF o.unit (childs (newT t o) q) = withoutF o.unit (childs t q) := by
  have hC := ((sound_parts t).1 h).1
  unfold newT
  by_cases h1 : o.kind = 1
  · rw [if_pos h1]
    have hc := can_create h hf h1 h0
    rw [childs_created h hc q hne]
    split
    · rename_i e
      rw [e, without_putF]
      · rw [without_no]
        intro hm
        obtain ⟨b, hb, _, e2⟩ := (childs_mem h (stands_there hc.stands)).1 hm
        exact hc.new b hb e2
      · intro hm
        obtain ⟨b, hb, _, e2⟩ := (childs_mem h (stands_there hc.stands)).1 hm
        exact hc.new b hb e2
    · rfl
  · rw [if_neg h1]
    cases hb : brFind t.brs o.unit with
    | none => rfl
    | some u =>
      have hin := find_in hb
      simp only
      split
      · rename_i h2
        have hc := can_move h h2 h0 hb
        rw [childs_moved h hc q hq]
        split
        · rename_i e
          rw [e, without_putF _ _ (fun hm => ((mem_without _ _ _).1 hm).2 rfl)]
        · rw [without_idem]
      · split
        · rw [childs_removed h hin.1 hin.2 q hne hq, without_idem]
        · split
          · rw [childs_setU t o.unit (fun b => { b with title := o.title }) (fun _ => ⟨rfl, rfl⟩)]
          · rw [childs_setU t o.unit (fun b => { b with mark := o.mark }) (fun _ => ⟨rfl, rfl⟩)]
end Go.Proofs.YtafncfomiolmgaaGreatDoor

/- The opposite of an operation, plainly: it leads back. No condition. -/
namespace Go.Proofs.YtafncfomiolmgaaGreatDoor
open Go.RowKit

/-- The opposite of an operation without fault. -/
def oppO (t : Tr) (o : Opn) : Opn := match brFind t.brs o.unit with
  | none => ⟨o.id, o.day, 5, o.unit, 0, 0, 0, ⟨#[]⟩, ⟨#[]⟩, 0, 0, 0⟩
  | some u =>
    if o.kind = 2 then ⟨o.id, o.day, 2, o.unit, u.parent, behindF o.unit (childs t u.parent), 0, ⟨#[]⟩, ⟨#[]⟩, 0, 0, 0⟩
    else if o.kind = 3 then ⟨o.id, o.day, 3, o.unit, 0, 0, 0, u.title, ⟨#[]⟩, 0, 0, 0⟩
    else if o.kind = 4 then ⟨o.id, o.day, 4, o.unit, 0, 0, 0, ⟨#[]⟩, u.mark, 0, 0, 0⟩
    else ⟨o.id, o.day, 1, o.unit, u.parent, behindF o.unit (childs t u.parent), u.level, u.title, u.mark, 0, 0, 0⟩
theorem behind_mem (n : Int) : ∀ {l : List Int}, l.Nodup → behindF n l = 0 ∨ (behindF n l ∈ l ∧ behindF n l ≠ n)
  | [], _ => .inl rfl
  | x :: r, h => by
    have h' := List.nodup_cons.1 h
    unfold behindF
    split
    · rename_i e
      cases r with
      | nil => exact .inl rfl
      | cons z s => exact .inr ⟨by simp, fun e2 => h'.1 (by rw [e, ← e2]; simp)⟩
    · rcases behind_mem n h'.2 with h2 | ⟨h2, h3⟩
      · exact .inl h2
      · exact .inr ⟨List.mem_cons_of_mem _ h2, h3⟩
theorem behind_ok {t : Tr} (h : SoundM t) {u : Br} (hu : u ∈ t.brs) (n : Int) : behindF n (childs t u.parent) = 0 ∨ (behindF n (childs t u.parent) ∈ withoutF n (childs t u.parent)) := by
  have hK := ((sound_parts t).1 h).2
  rcases behind_mem n (hK _ (parent_there h hu)).1 with h1 | ⟨h1, h2⟩
  · exact .inl h1
  · exact .inr ((mem_without _ _ _).2 ⟨h1, h2⟩)
theorem within_iff (a b c : Int) : within a b c = true ↔ b ≤ a ∧ a ≤ c := by
  unfold within
  simp
theorem parent_range {t : Tr} (h : SoundM t) {u : Br} (hu : u ∈ t.brs) : within u.parent 0 1073741824 = true := by
  rw [within_iff]
  rcases parent_there h hu with e | ⟨b, hb, e⟩
  · omega
  · have := (within_iff _ _ _).1 (h.units b hb).1
    omega
theorem behind_range {t : Tr} (h : SoundM t) {u : Br} (hu : u ∈ t.brs) (n : Int) : within (behindF n (childs t u.parent)) 0 1073741824 = true := by
  rw [within_iff]
  rcases behind_ok h hu n with e | hm
  · omega
  · obtain ⟨b, hb, _, e⟩ := (childs_mem h (parent_there h hu)).1 ((mem_without _ _ _).1 hm).1
    have := (within_iff _ _ _).1 (h.units b hb).1
    omega
theorem mark_back {m : ByteArray} (h : m.toList.isEmpty = false → markF m.data.toList = true) : markE m.data.toList = true := by
  by_cases hm : m.toList.isEmpty = true
  · have e : m.data.toList = [] := by
      rw [ByteArray.toList_eq] at hm
      simpa using hm
    rw [e]
    rfl
  · have h1 := h (by simpa using hm)
    unfold markF at h1
    unfold markE
    rw [Bool.and_eq_true, decide_eq_true_eq] at h1 ⊢
    exact ⟨h1.1.2, h1.2⟩
theorem emptyS_nil : emptyS ⟨#[]⟩ = true := by
  unfold emptyS
  rw [ByteArray.toList_eq]
  rfl
theorem origin_nil : originF 0 0 0 = true := by decide
/-- The opposite has its form. -/
theorem opp_formed {t : Tr} {o : Opn} (h : SoundM t) (hf : formedO o = true) : formedO (oppO t o) = true ∧ (oppO t o).kind ≠ 6 := by
  unfold formedO at hf ⊢
  simp only [Bool.and_eq_true] at hf ⊢
  obtain ⟨h1, h2, h3, -⟩ := hf
  unfold oppO
  cases hb : brFind t.brs o.unit with
  | none => exact ⟨⟨h1, h2, h3, by simp [kindF, noPlace, noOrigin, emptyS_nil]⟩, by simp⟩
  | some u =>
    have hin := find_in hb
    obtain ⟨u1, u2, u3, u4⟩ := h.units u hin.1
    have a1 := parent_range h hin.1
    have a2 := behind_range h hin.1 o.unit
    have a3 := mark_back u4
    simp only
    split
    · refine ⟨⟨h1, h2, h3, ?_⟩, by simp⟩
      simp [kindF, placeF, noOrigin, emptyS_nil, a1, a2]
    · split
      · refine ⟨⟨h1, h2, h3, ?_⟩, by simp⟩
        simp [kindF, noPlace, noOrigin, emptyS_nil, u3]
      · split
        · refine ⟨⟨h1, h2, h3, ?_⟩, by simp⟩
          simp [kindF, noPlace, noOrigin, emptyS_nil, a3]
        · refine ⟨⟨h1, h2, h3, ?_⟩, by simp⟩
          simp [kindF, placeF, a1, a2, u2, u3, a3, origin_nil]
end Go.Proofs.YtafncfomiolmgaaGreatDoor

/- The opposite of an operation leads back. No condition. -/
namespace Go.Proofs.YtafncfomiolmgaaGreatDoor
open Go.RowKit

/-- Two lists of units that differ in a unit alone let the same levels stand below the others. -/
theorem stands_same {l m : List Br} {p lv : Int} (hc : ∀ b ∈ l, b.id = p → ∃ c ∈ m, c.id = p ∧ c.level = b.level) (h : StandsT l p lv) : StandsT m p lv := by
  rcases h with h | ⟨h1, q, hq, h2, h3⟩
  · exact .inl h
  · obtain ⟨c, hcm, e1, e2⟩ := hc q hq h2
    exact .inr ⟨h1, c, hcm, e1, by rw [e2]; exact h3⟩
theorem core_mem {l m : List Br} (g : Br → Br) (h : m.map core = (l.map core).map g) : (∀ b ∈ l, ∃ c ∈ m, core c = g (core b)) ∧ ∀ c ∈ m, ∃ b ∈ l, core c = g (core b) := by
  constructor
  · intro b hb
    have : g (core b) ∈ m.map core := by
      rw [h]
      exact List.mem_map.2 ⟨core b, List.mem_map.2 ⟨b, hb, rfl⟩, rfl⟩
    obtain ⟨c, hc, e⟩ := List.mem_map.1 this
    exact ⟨c, hc, e⟩
  · intro c hc
    have : core c ∈ (l.map core).map g := by
      rw [← h]
      exact List.mem_map.2 ⟨c, hc, rfl⟩
    obtain ⟨d, hd, e⟩ := List.mem_map.1 this
    obtain ⟨b, hb, rfl⟩ := List.mem_map.1 hd
    exact ⟨b, hb, e.symm⟩
theorem own_stands {t : Tr} (h : SoundM t) {u : Br} (hu : u ∈ t.brs) : StandsT t.brs u.parent u.level := (placed_mem h.asc u).1 (h.placed u hu)
/-- What a move does to a unit, without its children. -/
def mvG (o : Opn) (b : Br) : Br := if b.id = o.unit then { b with parent := o.parent, kids := [] } else b
theorem mvG_id (o : Opn) (b : Br) : (mvG o b).id = b.id := by unfold mvG; split <;> rfl
theorem mvG_level (o : Opn) (b : Br) : (mvG o b).level = b.level := by unfold mvG; split <;> rfl
theorem mv_all {o : Opn} {a b : Br} (e : core a = mvG o (core b)) : a.id = b.id ∧ a.level = b.level := by
  constructor
  · have := congrArg Br.id e
    rw [mvG_id] at this
    exact this
  · have := congrArg Br.level e
    rw [mvG_level] at this
    exact this
/-- What was moved may be moved back. -/
theorem back_move {t : Tr} {o o2 : Opn} {u : Br} (h : SoundM t) (hc : CanMove t o u) (h1 : o2.unit = o.unit) (h2 : o2.parent = u.parent) (h3 : o2.before = behindF o.unit (childs t u.parent)) : ∃ v, CanMove (moveT t o u) o2 v := by
  have hM := move_sound h hc
  obtain ⟨hto, hof⟩ := core_mem (mvG o) (core_moved t o u)
  obtain ⟨v, hv, ev⟩ := hto u hc.mem
  obtain ⟨v1, v3⟩ := mv_all ev
  have hvid : v.id = o.unit := v1.trans hc.id
  have hvl : v.level = u.level := v3
  refine ⟨v, hv, by rw [hvid, h1], ?_, ?_, ?_⟩
  · rw [h2, hvl]
    refine stands_same (l := t.brs) (fun b hb e => ?_) (own_stands h hc.mem)
    obtain ⟨c, hcm, ec⟩ := hto b hb
    obtain ⟨c1, c3⟩ := mv_all ec
    exact ⟨c, hcm, c1.trans e, c3⟩
  · rw [h1, h2]
    intro hud
    have hmem : u.parent ∈ belowT (moveT t o u) o.unit := by
      rw [← hvid]
      exact (mem_below hM hv _).2 (by rw [hvid]; exact hud)
    rw [below_moved h hc] at hmem
    have hud2 : UnderT t.brs o.unit u.parent := by
      rw [← hc.id] at hmem ⊢
      exact (mem_below h hc.mem _).1 hmem
    obtain ⟨r, hr⟩ := h.rank
    have hle := under_rank hr hud2
    obtain ⟨b, hb, e⟩ := under_there ⟨u, hc.mem, hc.id⟩ hud2
    have hlt := hr u hc.mem (by rw [← e]; exact unit_pos (h.units b hb))
    rw [hc.id] at hlt
    omega
  · rw [h1, h2, h3]
    intro hb
    have e : withoutF o.unit (childs (moveT t o u) u.parent) = withoutF o.unit (childs t u.parent) := by
      rw [childs_moved h hc _ (parent_there h hc.mem)]
      split
      · rename_i e
        rw [without_putF _ _ (fun hm => ((mem_without _ _ _).1 hm).2 rfl), e]
      · exact without_idem _ _
    rw [e]
    exact (behind_ok h hc.mem o.unit).resolve_left hb
end Go.Proofs.YtafncfomiolmgaaGreatDoor

/- What was removed may be created again; the opposite leads back. No condition. -/
namespace Go.Proofs.YtafncfomiolmgaaGreatDoor
open Go.RowKit

theorem core_removed (t : Tr) (o : Opn) (u : Br) : (removeT t o u).brs.map core = (t.brs.map core).filter fun c => !(c.id == o.unit) := by
  have e : ∀ l : List Br, (l.filter fun b => !(b.id == o.unit)).map core = (l.map core).filter fun c => !(c.id == o.unit) := fun l => by
    rw [List.filter_map]
    rfl
  unfold removeT
  simp only
  rw [e, core_setK]
theorem mem_removed (t : Tr) (o : Opn) (u : Br) : (∀ b ∈ t.brs, b.id ≠ o.unit → ∃ c ∈ (removeT t o u).brs, core c = core b) ∧ ∀ c ∈ (removeT t o u).brs, c.id ≠ o.unit ∧ ∃ b ∈ t.brs, core c = core b := by
  have h := core_removed t o u
  constructor
  · intro b hb hne
    have : core b ∈ (removeT t o u).brs.map core := by
      rw [h]
      refine List.mem_filter.2 ⟨List.mem_map.2 ⟨b, hb, rfl⟩, ?_⟩
      show (!(b.id == o.unit)) = true
      simpa using hne
    obtain ⟨c, hc, e⟩ := List.mem_map.1 this
    exact ⟨c, hc, e⟩
  · intro c hc
    have : core c ∈ (t.brs.map core).filter fun c => !(c.id == o.unit) := by
      rw [← h]
      exact List.mem_map.2 ⟨c, hc, rfl⟩
    obtain ⟨h1, h2⟩ := List.mem_filter.1 this
    obtain ⟨b, hb, e⟩ := List.mem_map.1 h1
    refine ⟨?_, b, hb, e.symm⟩
    have h3 : (!(c.id == o.unit)) = true := h2
    simpa using h3
theorem back_remove {t : Tr} {o o2 : Opn} {u : Br} (h : SoundM t) (hu : u ∈ t.brs) (hid : u.id = o.unit) (hk : u.kids = []) (h1 : o2.unit = o.unit) (h2 : o2.parent = u.parent) (h3 : o2.before = behindF o.unit (childs t u.parent)) (h4 : o2.level = u.level) (h5 : o2.title = u.title) (h6 : o2.mark = u.mark) : CanCreate (removeT t o u) o2 := by
  obtain ⟨hto, hof⟩ := mem_removed t o u
  have hu0 : u.id ≠ 0 := unit_pos (h.units u hu)
  have hpn : u.parent ≠ o.unit := fun e => by
    have := (childs_mem h (n := u.id) (x := u.id) (.inr ⟨u, hu, rfl⟩)).2 ⟨u, hu, by rw [e, hid], rfl⟩
    rw [childs_of h.asc hu hu0, hk] at this
    cases this
  refine ⟨fun c hc => ?_, ?_, ?_, fun hb => ?_, fun c hc hne he => ?_, ?_⟩
  · rw [h1]
    exact (hof c hc).1
  · rw [h1, h2, h4, h5, h6, ← hid]
    exact h.units u hu
  · rw [h2, h4]
    refine stands_same (l := t.brs) (fun b hb e => ?_) (own_stands h hu)
    obtain ⟨c, hcm, ec⟩ := hto b hb (by rw [e]; exact hpn)
    obtain ⟨c1, c2, c3, c4, c5⟩ := core_all ec
    exact ⟨c, hcm, c1.trans e, c3⟩
  · rw [h3] at hb ⊢
    rw [h2, childs_removed h hu hid _ hpn (parent_there h hu)]
    exact (behind_ok h hu o.unit).resolve_left hb
  · rw [h6] at hne he
    obtain ⟨hcn, b, hb, ec⟩ := hof c hc
    obtain ⟨c1, c2, c3, c4, c5⟩ := core_all ec
    have := h.marks u hu b hb hne (by rw [← he, c5])
    exact hcn (by rw [c1, ← this, hid])
  · have hl : (removeT t o u).brs.length = ((t.brs.map core).filter fun c => !(c.id == o.unit)).length := by
      rw [← core_removed t o u, List.length_map]
    have h7 : ((t.brs.map core).filter fun c => !(c.id == o.unit)).length < (t.brs.map core).length := by
      rw [List.length_filter_lt_length_iff_exists]
      refine ⟨core u, List.mem_map.2 ⟨u, hu, rfl⟩, ?_⟩
      have : (core u).id = o.unit := hid
      rw [this]
      simp
    have := h.len
    rw [List.length_map] at h7
    omega
end Go.Proofs.YtafncfomiolmgaaGreatDoor

/- The opposite of an operation leads back: all kinds together. No condition. -/
namespace Go.Proofs.YtafncfomiolmgaaGreatDoor
open Go.RowKit

theorem newT_1 {t : Tr} {o : Opn} (h : o.kind = 1) : newT t o = createT t o := by
  unfold newT
  rw [if_pos h]
theorem newT_2 {t : Tr} {o : Opn} {u : Br} (h : o.kind = 2) (hb : brFind t.brs o.unit = some u) : newT t o = moveT t o u := by
  unfold newT
  rw [if_neg (by rw [h]; decide), hb]
  simp only
  rw [if_pos h]
theorem newT_5 {t : Tr} {o : Opn} {u : Br} (h : o.kind = 5) (hb : brFind t.brs o.unit = some u) : newT t o = removeT t o u := by
  unfold newT
  rw [if_neg (by rw [h]; decide), hb]
  simp only
  rw [if_neg (by rw [h]; decide), if_pos h]
theorem newT_3 {t : Tr} {o : Opn} {u : Br} (h : o.kind = 3) (hb : brFind t.brs o.unit = some u) : newT t o = setU t o.unit fun b => { b with title := o.title } := by
  unfold newT
  rw [if_neg (by rw [h]; decide), hb]
  simp only
  rw [if_neg (by rw [h]; decide), if_neg (by rw [h]; decide), if_pos h]
theorem newT_4 {t : Tr} {o : Opn} {u : Br} (h : o.kind = 4) (hb : brFind t.brs o.unit = some u) : newT t o = setU t o.unit fun b => { b with mark := o.mark } := by
  unfold newT
  rw [if_neg (by rw [h]; decide), hb]
  simp only
  rw [if_neg (by rw [h]; decide), if_neg (by rw [h]; decide), if_neg (by rw [h]; decide)]
theorem faultO_1 {t : Tr} {o : Opn} (h : o.kind = 1) : faultO t o = faultC t o := by
  unfold faultO
  rw [if_pos h]
theorem faultO_2 {t : Tr} {o : Opn} (h : o.kind = 2) : faultO t o = faultM t o := by
  unfold faultO
  rw [if_neg (by rw [h]; decide), if_pos h]
theorem faultO_5 {t : Tr} {o : Opn} (h : o.kind = 5) : faultO t o = faultR t o := by
  unfold faultO
  rw [if_neg (by rw [h]; decide), if_neg (by rw [h]; decide), if_pos h]
theorem faultO_34 {t : Tr} {o : Opn} (h : o.kind = 3 ∨ o.kind = 4) : faultO t o = faultL t o := by
  unfold faultO
  rw [if_neg (by omega), if_neg (by omega), if_neg (by omega)]
/-- The kinds that have a form. -/
theorem kind_of {o : Opn} (h : formedO o = true) (h6 : o.kind ≠ 6) : o.kind = 1 ∨ o.kind = 2 ∨ o.kind = 3 ∨ o.kind = 4 ∨ o.kind = 5 := by
  unfold formedO at h
  simp only [Bool.and_eq_true] at h
  obtain ⟨-, -, -, hk⟩ := h
  unfold kindF at hk
  by_cases h1 : o.kind = 1
  · exact .inl h1
  by_cases h2 : o.kind = 2
  · exact .inr (.inl h2)
  by_cases h3 : o.kind = 3
  · exact .inr (.inr (.inl h3))
  by_cases h4 : o.kind = 4
  · exact .inr (.inr (.inr (.inl h4)))
  by_cases h5 : o.kind = 5
  · exact .inr (.inr (.inr (.inr h5)))
  rw [if_neg h1, if_neg h2, if_neg h3, if_neg h4, if_neg (fun h => h.elim h5 h6)] at hk
  cases hk
theorem find_there {t : Tr} {o : Opn} (h : faultO t o = 0) (h1 : o.kind ≠ 1) : ∃ u, brFind t.brs o.unit = some u := by
  cases hb : brFind t.brs o.unit with
  | some u => exact ⟨u, rfl⟩
  | none =>
    exfalso
    unfold faultO faultM faultR faultL at h
    rw [hb, if_neg h1] at h
    simp only [ite_self] at h
    cases h
theorem find_setU (t : Tr) {n : Int} {u : Br} (f : Br → Br) (hf : ∀ b, (f b).id = b.id) (hb : brFind t.brs n = some u) : brFind (setU t n f).brs n = some (f u) := by
  have hin := find_in hb
  unfold setU
  show brFind (t.brs.map fun b => if b.id = n then f b else b) n = _
  rw [find_map _ (fun b => by split; exact hf b; rfl), hb]
  show some (if u.id = n then f u else u) = _
  rw [if_pos hin.2]
/-- The opposite of an operation leads back. -/
theorem opp_back {t : Tr} {o : Opn} (h : SoundM t) (hf : formedO o = true) (h6 : o.kind ≠ 6) (h0 : faultO t o = 0) : faultO (newT t o) (oppO t o) = 0 ∧ newT (newT t o) (oppO t o) = t := by
  rcases kind_of hf h6 with h1 | hk
  · have hc := can_create h hf h1 h0
    have hn : brFind t.brs o.unit = none := (find_none _).2 hc.new
    have hS := create_sound h hc
    have hin : brFind (createT t o).brs o.unit = some ⟨o.unit, o.parent, o.level, o.title, o.mark, []⟩ := by
      refine (find_iff hS.asc _ _).2 ⟨?_, rfl⟩
      unfold createT
      exact (mem_insB _ _ _).2 (.inl rfl)
    have e2 : (oppO t o).kind = 5 ∧ (oppO t o).unit = o.unit := by
      unfold oppO
      rw [hn]
      exact ⟨rfl, rfl⟩
    rw [newT_1 h1]
    generalize oppO t o = p at e2 ⊢
    have hin2 := hin
    rw [← e2.2] at hin2
    constructor
    · rw [faultO_5 e2.1]
      unfold faultR
      rw [hin2, e2.2]
      simp
    · rw [newT_5 e2.1 hin2, e2.2]
      exact remove_create h hc e2.2
  · obtain ⟨u, hb⟩ := find_there h0 (by omega)
    have hin := find_in hb
    rcases hk with h2 | h3 | h4 | h5
    · have hc := can_move h h2 h0 hb
      have e : oppO t o = ⟨o.id, o.day, 2, o.unit, u.parent, behindF o.unit (childs t u.parent), 0, ⟨#[]⟩, ⟨#[]⟩, 0, 0, 0⟩ := by
        unfold oppO
        rw [hb]
        simp only
        rw [if_pos h2]
      have ek : (oppO t o).kind = 2 := by rw [e]
      have e1 : (oppO t o).unit = o.unit := by rw [e]
      have e2 : (oppO t o).parent = u.parent := by rw [e]
      have e3 : (oppO t o).before = behindF o.unit (childs t u.parent) := by rw [e]
      rw [newT_2 h2 hb]
      generalize oppO t o = p at ek e1 e2 e3 ⊢
      have hM := move_sound h hc
      obtain ⟨v, hv⟩ := back_move h hc e1 e2 e3
      refine ⟨by rw [faultO_2 ek]; exact fault_move hM hv, ?_⟩
      rw [newT_2 ek ((find_iff hM.asc _ _).2 ⟨hv.mem, hv.id⟩)]
      exact move_back h hc hv e1 e2 e3
    · have e : oppO t o = ⟨o.id, o.day, 3, o.unit, 0, 0, 0, u.title, ⟨#[]⟩, 0, 0, 0⟩ := by
        unfold oppO
        rw [hb]
        simp only
        rw [if_neg (by omega), if_pos h3]
      have hfd := find_setU t (fun b => { b with title := o.title }) (fun _ => rfl) hb
      rw [newT_3 h3 hb, e]
      constructor
      · rw [faultO_34 (.inl rfl)]
        unfold faultL
        simp only
        rw [hfd]
        rfl
      · rw [newT_3 (o := ⟨o.id, o.day, 3, o.unit, 0, 0, 0, u.title, ⟨#[]⟩, 0, 0, 0⟩) rfl hfd]
        rw [← hin.2]
        exact label_back h.asc hin.1 _ _ (fun _ => rfl) rfl
    · have e : oppO t o = ⟨o.id, o.day, 4, o.unit, 0, 0, 0, ⟨#[]⟩, u.mark, 0, 0, 0⟩ := by
        unfold oppO
        rw [hb]
        simp only
        rw [if_neg (by omega), if_neg (by omega), if_pos h4]
      have hfd := find_setU t (fun b => { b with mark := o.mark }) (fun _ => rfl) hb
      rw [newT_4 h4 hb, e]
      constructor
      · rw [faultO_34 (.inr rfl)]
        unfold faultL
        simp only
        rw [hfd]
        simp only
        rw [if_neg]
        rintro ⟨-, hx⟩
        unfold usedB setU at hx
        simp only [Bool.and_eq_true, Bool.not_eq_true', List.any_eq_true, List.mem_map] at hx
        obtain ⟨hne, c, ⟨b, hbm, rfl⟩, hx1, hx2⟩ := hx
        by_cases hbu : b.id = o.unit
        · rw [if_pos hbu] at hx2
          simp [hbu] at hx2
        · rw [if_neg hbu] at hx1
          have := h.marks u hin.1 b hbm hne (by simpa using (beq_iff_eq.1 hx1).symm)
          exact hbu (by rw [← this, hin.2])
      · rw [newT_4 (o := ⟨o.id, o.day, 4, o.unit, 0, 0, 0, ⟨#[]⟩, u.mark, 0, 0, 0⟩) rfl hfd]
        rw [← hin.2]
        exact label_back h.asc hin.1 _ _ (fun _ => rfl) rfl
    · have e : oppO t o = ⟨o.id, o.day, 1, o.unit, u.parent, behindF o.unit (childs t u.parent), u.level, u.title, u.mark, 0, 0, 0⟩ := by
        unfold oppO
        rw [hb]
        simp only
        rw [if_neg (by omega), if_neg (by omega), if_neg (by omega)]
      have hkk : u.kids = [] := by
        rw [faultO_5 h5] at h0
        unfold faultR at h0
        rw [hb] at h0
        simp only at h0
        split at h0
        · simp at h0
        · rename_i e1
          simpa using e1
      have hR := remove_sound (o := o) h hin.1 hin.2 hkk
      rw [newT_5 h5 hb, e]
      have hcc := back_remove (o := o) (o2 := ⟨o.id, o.day, 1, o.unit, u.parent, behindF o.unit (childs t u.parent), u.level, u.title, u.mark, 0, 0, 0⟩) h hin.1 hin.2 hkk rfl rfl rfl rfl rfl rfl
      refine ⟨by rw [faultO_1 rfl]; exact fault_create hR hcc, ?_⟩
      rw [newT_1 rfl]
      exact create_remove h hin.1 hin.2 hkk rfl rfl rfl rfl rfl rfl
/-- What Apply does is undone by the opposite. -/
theorem applyR_back {t : Tr} {o : Opn} (h : (applyR t o).2 = 0) : applyR (applyR t o).1 (oppO t o) = (t, 0) := by
  have hr := applyR_right h
  have hs := right_sound hr.1
  have hx : (applyR t o).1 = newT t o ∧ formedO o = true ∧ o.kind ≠ 6 ∧ faultO t o = 0 := by
    unfold applyR at h ⊢
    split at h
    · simp at h
    · rename_i e1
      rw [if_neg e1]
      simp only [not_or, Bool.not_eq_false] at e1
      split at h
      · rename_i e2
        exact absurd h e2
      · rename_i e2
        rw [if_neg e2]
        split at h
        · rename_i e3
          rw [if_pos e3]
          exact ⟨rfl, e1.2.1, e1.2.2, by simpa using e2⟩
        · simp at h
  obtain ⟨e, hf, h6, h0⟩ := hx
  rw [e] at hr ⊢
  obtain ⟨b1, b2⟩ := opp_back hs hf h6 h0
  obtain ⟨f1, f2⟩ := opp_formed hs hf
  unfold applyR
  rw [if_neg (by rintro (hh | hh | hh); exact hh hr.2; rw [f1] at hh; cases hh; exact f2 hh), if_neg (by rw [b1]; simp), b2, if_pos hr.1]
end Go.Proofs.YtafncfomiolmgaaGreatDoor

/- Naming and removing a unit keep a tree right. No condition. -/
namespace Go.Proofs.YtafncfomiolmgaaGreatDoor
open Go.RowKit

theorem deep_map {l : List Br} (g : Br → Br) (hg : ∀ b, (g b).id = b.id ∧ (g b).parent = b.parent) : ∀ (n : Nat) (b : Br), deep (l.map g) n (g b) = deep l n b
  | 0, b => by
    unfold deep
    rw [(hg b).2]
  | n + 1, b => by
    unfold deep
    rw [(hg b).2, find_map g (fun b => (hg b).1)]
    cases brFind l b.parent with
    | none => rfl
    | some p =>
      show (if b.parent = 0 then some 1 else (deep (l.map g) n (g p)).map (· + 1)) = _
      rw [deep_map g hg n p]
theorem label_right {t : Tr} (h : RightT t) (n : Int) (f : Br → Br) (hf : ∀ b, (f b).id = b.id ∧ (f b).parent = b.parent) (hs : SoundM (setU t n f)) : RightT (setU t n f) := by
  refine (right_iff _).2 ⟨hs, fun b hb => ?_⟩
  have hd := ((right_iff t).1 h).2
  unfold setU at hb ⊢
  obtain ⟨c, hc, rfl⟩ := List.mem_map.1 hb
  obtain ⟨d, hd1, hd2⟩ := hd c hc
  refine ⟨d, ?_, hd2⟩
  have hg : ∀ b : Br, (if b.id = n then f b else b).id = b.id ∧ (if b.id = n then f b else b).parent = b.parent := fun b => by
    split
    · exact hf b
    · exact ⟨rfl, rfl⟩
  have := deep_map (l := t.brs) (fun b => if b.id = n then f b else b) hg t.brs.length c
  show deep (t.brs.map fun b => if b.id = n then f b else b) (t.brs.map fun b => if b.id = n then f b else b).length (if c.id = n then f c else c) = some d
  rw [List.length_map, this, hd1]
theorem deep_without {l : List Br} {u : Int} (hno : ∀ b ∈ l, b.parent ≠ u) : ∀ (n : Nat) (b : Br), b ∈ l → deep (l.filter fun c => !(c.id == u)) n b = deep l n b
  | 0, b, _ => rfl
  | n + 1, b, hb => by
    unfold deep
    rw [find_without (hno b hb)]
    cases hp : brFind l b.parent with
    | none => rfl
    | some p =>
      show (if b.parent = 0 then some 1 else (deep (l.filter fun c => !(c.id == u)) n p).map (· + 1)) = _
      rw [deep_without hno n p (find_in hp).1]
theorem remove_right {t : Tr} {o : Opn} {u : Br} (h : RightT t) (hu : u ∈ t.brs) (hid : u.id = o.unit) (hk : u.kids = []) : RightT (removeT t o u) := by
  have hS := right_sound h
  have hR := remove_sound (o := o) hS hu hid hk
  refine (right_iff _).2 ⟨hR, fun b hb => ?_⟩
  have hd := ((right_iff t).1 h).2
  have hno : ∀ b ∈ t.brs, b.parent ≠ o.unit := fun b hb e => by
    have hm := (childs_mem hS (n := u.id) (x := b.id) (.inr ⟨u, hu, rfl⟩)).2 ⟨b, hb, by rw [e, hid], rfl⟩
    rw [childs_of hS.asc hu (unit_pos (hS.units u hu)), hk] at hm
    cases hm
  -- the list with other children
  obtain ⟨g, hg, hl⟩ : ∃ g : Br → Br, (∀ b, (g b).id = b.id ∧ (g b).parent = b.parent) ∧ (removeT t o u).brs = (t.brs.map g).filter fun c => !(c.id == o.unit) := by
    unfold removeT setK
    by_cases h0 : u.parent = 0
    · rw [if_pos h0]
      exact ⟨id, fun _ => ⟨rfl, rfl⟩, by simp⟩
    · rw [if_neg h0]
      exact ⟨_, fun b => by split <;> exact ⟨rfl, rfl⟩, rfl⟩
  have hb2 := hb
  rw [hl] at hb2
  obtain ⟨hb3, -⟩ := List.mem_filter.1 hb2
  obtain ⟨c, hc, rfl⟩ := List.mem_map.1 hb3
  obtain ⟨d, hd1, hd2⟩ := hd c hc
  refine ⟨d, ?_, hd2⟩
  have hno2 : ∀ b ∈ t.brs.map g, b.parent ≠ o.unit := fun b hb => by
    obtain ⟨c, hc, rfl⟩ := List.mem_map.1 hb
    rw [(hg c).2]
    exact hno c hc
  have h1 : deep (removeT t o u).brs t.brs.length (g c) = some d := by
    rw [hl, deep_without hno2 _ _ hb3, deep_map g hg, hd1]
  have h2 := deep_le hR.asc hb h1
  exact (deep_mono _ _ _ h1).2 _ (by omega)
/-- Whether a unit but one bears a mark, by the first that bears it. -/
theorem used_first {t : Tr} (h : SoundM t) (m : ByteArray) (but : Int) : usedB t m but = match (if m.toList.isEmpty then none else t.brs.find? fun b => b.mark.toList == m.toList) with
    | none => false
    | some b => !(b.id == but) := by
  unfold usedB
  cases hm : m.toList.isEmpty with
  | true => rfl
  | false =>
    simp only [Bool.not_false, Bool.true_and, Bool.false_eq_true, if_false]
    cases hf : t.brs.find? fun b => b.mark.toList == m.toList with
    | none =>
      rw [List.any_eq_false]
      intro b hb
      have := List.find?_eq_none.1 hf b hb
      simp only [Bool.not_eq_true] at this
      simp [this]
    | some c =>
      have hc := List.mem_of_find?_eq_some hf
      have he : c.mark.toList = m.toList := by simpa using List.find?_some hf
      rw [Bool.eq_iff_iff, List.any_eq_true]
      constructor
      · rintro ⟨b, hb, hx⟩
        rw [Bool.and_eq_true] at hx
        have hbm : b.mark.toList = m.toList := by simpa using hx.1
        have := h.marks b hb c hc (by rw [hbm]; exact hm) (by rw [hbm, he])
        show (!(c.id == but)) = true
        rw [← this]
        exact hx.2
      · intro hx
        exact ⟨c, hc, by rw [Bool.and_eq_true]; exact ⟨by simpa using he, hx⟩⟩
end Go.Proofs.YtafncfomiolmgaaGreatDoor

/- The editor's stands, used, limit, rename and mark, walked. The conditions: the tree is right; the lists are short; the library's own variables hold what they must. -/
namespace Go.Proofs.YtafncfomiolmgaaGreatDoor
open Go.RowKit

def Opn.cells (o : Opn) : List Value := [.int .i64 o.id, .int .i64 o.day, .int .i64 o.kind, .int .i64 o.unit, .int .i64 o.parent, .int .i64 o.before, .int .i64 o.level, .string o.title, .string o.mark, .int .i64 o.office, .int .i64 o.acc, .int .i64 o.num]
def Opn.agg (o : Opn) : Value := .agg #[.int .i64 o.id, .int .i64 o.day, .int .i64 o.kind, .int .i64 o.unit, .int .i64 o.parent, .int .i64 o.before, .int .i64 o.level, .string o.title, .string o.mark, .int .i64 o.office, .int .i64 o.acc, .int .i64 o.num]
/-- The tree of an editor: right but for its depth, and not too large. -/
structure TOk (t : Tr) : Prop where
  sound : SoundM t
  few : FewBr t.brs
  roots : t.roots.length ≤ 1000000
theorem TOk.asc {t : Tr} (h : TOk t) : idsAsc t.brs := h.sound.asc
theorem TOk.len {t : Tr} (h : TOk t) : t.brs.length ≤ 1000000 := h.few.1
theorem TOk.kids {t : Tr} (h : TOk t) (p : Int) : (childs t p).length ≤ 1000000 := by
  unfold childs
  by_cases h0 : p = 0
  · rw [if_pos h0]; exact h.roots
  · rw [if_neg h0]
    cases hb : brFind t.brs p with
    | none => simp
    | some b =>
      obtain ⟨k, hk, e⟩ := List.mem_iff_getElem.1 (find_in hb).1
      have := h.few.2 k hk
      rw [e] at this
      exact this
/-- How an operation of the editor ends: its error; the tree behind it, if there is none. -/
def MEnd (w0 : World) (E : Nat) (t' : Tr) (n : Int) (e : Ending) (w' : World) : Prop := e = .returned (.int .i64 n) ∧ Grew w0 w' ∧ (n = 0 → ∃ bv', EdB w0.heap.size E bv' t' w')
section
variable {w0 : World} {E : Nat} {bv : Value} {t : Tr} {w : World}
theorem EdB.at_ {base : Nat} (h : EdB base E bv t w) {i : Nat} (hi : i < t.brs.length) : ∃ B cap, bv = .slice (some ⟨B, 0, none⟩) t.brs.length cap := by
  obtain ⟨rv, cs, hE⟩ := h
  obtain ⟨B, cap, hbv, -, -, -⟩ := own_form hE.brs (by omega)
  exact ⟨B, cap, hbv⟩
theorem find_at {l : List Br} {n : Int} {b : Br} (h : brFind l n = some b) : ∃ i, ∃ hi : i < l.length, l[i] = b ∧ l[i].id = n := by
  obtain ⟨k, hk, _, e⟩ := brIdx_some h
  exact ⟨k, hk, e, by rw [e]; exact (find_in h).2⟩
set_option maxHeartbeats 2000000 in
theorem edStands {base : Nat} (h : EdB base E bv t w) (hT : TOk t) (p lv : Int) (hp : p = 0 ∨ ∃ b, brFind t.brs p = some b) :
    Calls Tryz.prog 87 #[.pointer (some ⟨E, 0, none⟩), .int .i64 p, .int .i64 lv] w fun e w' => e = .returned (.int .i64 (if standsB t p lv then 0 else 18)) ∧ Grew w w' := by
  by_cases hz : p = 0
  · subst hz
    have hs : standsB t 0 lv = (lv == 1) := by
      unfold standsB
      rw [if_pos rfl]
    rw [hs]
    cases hl : (lv == 1)
    all_goals
      go_enter Tryz.func87, Tryz.ntmps87
      go_wp2
      go_ret
      exact ⟨rfl, Grew.refl w⟩
  · obtain ⟨b, hb⟩ := hp.resolve_left hz
    obtain ⟨i, hi, eb, ei⟩ := find_at hb
    obtain ⟨B, cap, hbv⟩ := h.at_ hi
    have hs : standsB t p lv = ((lv != 1) && fitsF t.brs[i].level lv) := by
      unfold standsB
      rw [if_neg hz, hb, ← eb]
      show fitsF t.brs[i].level lv = _
      cases hf : fitsF t.brs[i].level lv with
      | false => rw [Bool.and_false]
      | true => simp [fits_one hf]
    rw [hs]
    have kB := edBranch h hT.asc hT.len hi hbv
    rw [ei] at kB
    have hz' : (p != 0) = true := by simpa using hz
    obtain ⟨rv, cs, hE⟩ := h
    obtain ⟨-, -, c2, -⟩ := hE.at_ hi hbv
    have KB := Lib.hid kB
    have KF := Lib.hid (tFits t.brs[i].level lv)
    generalize fitsF t.brs[i].level lv = q at KF ⊢
    generalize t.brs[i].level = bl at c2 KF
    have C2 := Lib.hid c2
    clear hE hb eb ei hs kB hbv hp hz c2 hT
    cases hl : (lv != 1)
    · go_enter Tryz.func87, Tryz.ntmps87
      go_wp2
      go_ret
      exact ⟨rfl, Grew.refl w⟩
    · cases q
      all_goals
        go_enter Tryz.func87, Tryz.ntmps87
        go_wp2_with fail
        refine KB.out.mono ?_
        rintro e w1 ⟨rfl, g1⟩
        have c2 := keep_cell g1 C2.out
        dsimp only
        go_wp2_with fail
        refine (KF.out _).mono ?_
        rintro e w2 ⟨rfl, rfl⟩
        dsimp only
        go_wp2
        go_ret
        exact ⟨rfl, g1⟩
theorem edUsed {base : Nat} (h : EdB base E bv t w) (hT : TOk t) (m : ByteArray) (but : Int) :
    Calls Tryz.prog 90 #[.pointer (some ⟨E, 0, none⟩), .string m, .int .i64 but] w fun e w' => e = .returned (.bool (usedB t m but)) ∧ Grew w w' := by
  rw [used_first hT.sound]
  obtain ⟨rv, -, hb, c0, c1, -, -⟩ := h.reads
  have k := tMarked t.brs m rv bv w hb
  unfold markedF at k
  generalize (if m.toList.isEmpty then none else t.brs.find? fun b => b.mark.toList == m.toList) = O at k ⊢
  unfold markV at k
  have K := Lib.hid k
  clear k h hb hT
  cases O with
  | none =>
    go_enter Tryz.func90, Tryz.ntmps90
    go_wp2_with fail
    refine K.out.mono ?_
    rintro e w1 ⟨rfl, g1⟩
    dsimp only [Option.isSome_none]
    go_wp2
    go_ret
    exact ⟨rfl, g1⟩
  | some b =>
    have hbe : (!(b.id == but)) = (b.id != but) := rfl
    simp only [hbe]
    go_enter Tryz.func90, Tryz.ntmps90
    go_wp2_with fail
    refine K.out.mono ?_
    rintro e w1 ⟨rfl, g1⟩
    dsimp only [Option.isSome_some]
    go_wp2
    go_ret
    exact ⟨rfl, g1⟩
open Classical in
theorem edLimit {base : Nat} (h : EdB base E bv t w) (hT : TOk t) (hE : Env w) :
    Calls Tryz.prog 93 #[.pointer (some ⟨E, 0, none⟩)] w fun e w' => e = .returned (.int .i64 (if RightT t then 0 else 15)) ∧ Grew w w' := by
  obtain ⟨rv, hr, hb, c0, c1, -, -⟩ := h.reads
  obtain ⟨rs, l⟩ := t
  have k := tCheckX rs l rv bv w hE hr hb hT.few hT.roots
  have hS := (sound_iff _).2 hT.sound
  obtain ⟨q, hq⟩ : ∃ q : Int, (if RightT ⟨rs, l⟩ then (0 : Int) else 15) = q := ⟨_, rfl⟩
  have HQ : RowKit.Hid (∀ n : Int, (n = 0 ↔ RightT ⟨rs, l⟩) → (n = 0 ∨ n = 15) → n = q) := fun n h1 h2 => by
    rw [← hq]
    by_cases hT : RightT ⟨rs, l⟩
    · rw [if_pos hT]
      exact h1.2 hT
    · rw [if_neg hT]
      exact h2.resolve_left fun h => hT (h1.1 h)
  rw [hq]
  have K := Lib.hid k
  have HS := Lib.hid hS
  clear k h hb hr hT hE hq hS
  go_enter Tryz.func93, Tryz.ntmps93
  go_wp2_with fail
  refine K.out.mono ?_
  rintro e w1 ⟨i, n, rfl, hn, -, hs, g1⟩
  have h1 := HQ.out n hn (hs HS.out)
  subst h1
  have h2 := hs HS.out
  clear HQ hn hs
  dsimp only
  rcases h2 with rfl | rfl
  · go_wp2
    go_ret
    exact ⟨rfl, g1⟩
  · go_wp2
    go_ret
    exact ⟨rfl, g1⟩
end
end Go.Proofs.YtafncfomiolmgaaGreatDoor

/- The editor's rename and mark, walked. The conditions: the tree is right; the lists are short. -/
namespace Go.Proofs.YtafncfomiolmgaaGreatDoor
open Go.RowKit

/-- The cells of an operation that lies in the block that was made last. -/
theorem opn_cells {w W : World} {t : TypeId} (o : Opn) (h : Grew (w.alloc (.cells o.cells.toArray t)) W) :
    W.cell? ⟨w.heap.size, 3, none⟩ = some (.int .i64 o.unit) ∧ W.cell? ⟨w.heap.size, 4, none⟩ = some (.int .i64 o.parent) ∧ W.cell? ⟨w.heap.size, 5, none⟩ = some (.int .i64 o.before) ∧ W.cell? ⟨w.heap.size, 6, none⟩ = some (.int .i64 o.level) ∧ W.cell? ⟨w.heap.size, 7, none⟩ = some (.string o.title) ∧ W.cell? ⟨w.heap.size, 8, none⟩ = some (.string o.mark) :=
  ⟨new_cell h 3 _ rfl, new_cell h 4 _ rfl, new_cell h 5 _ rfl, new_cell h 6 _ rfl, new_cell h 7 _ rfl, new_cell h 8 _ rfl⟩
section
variable {w0 : World} {E : Nat} {bv : Value} {t : Tr} {w : World}
theorem fieldDone {w1 : World} {i j : Nat} {B cap : Nat} (h : EdB w0.heap.size E bv t w1) (hG : Grew w0 w1) (hT : TOk t) (hi : i < t.brs.length) (hj : j < 5) (hbv : bv = .slice (some ⟨B, 0, none⟩) t.brs.length cap) (f : Br → Br) (u : Value) (hf : ∀ kv, ((f t.brs[i]).c kv).cells = (t.brs[i].c kv).cells.set j u) (hk : (f t.brs[i]).kids = t.brs[i].kids) {n : Int} (hn : t.brs[i].id = n) :
    MEnd w0 E (setU t n f) 0 (.returned (.int .i64 0)) (w1.setCell ⟨B, i * 6 + j, none⟩ u) ∧ w1.frozen? ⟨B, i * 6 + j, none⟩ = false ∧ ∃ v, w1.cell? ⟨B, i * 6 + j, none⟩ = some v := by
  obtain ⟨rv, cs, hE⟩ := h
  obtain ⟨c0, c1, c2, c3, c4, -, hz, hlo, hlt⟩ := hE.at_ hi hbv
  subst hn
  refine ⟨⟨rfl, hG.setCell (p := ⟨B, i * 6 + j, none⟩) hlo u, fun _ => ⟨bv, hE.field hT.asc hi hj hbv f u hf hk⟩⟩, hz _, ?_⟩
  have : j = 0 ∨ j = 1 ∨ j = 2 ∨ j = 3 ∨ j = 4 := by omega
  rcases this with rfl | rfl | rfl | rfl | rfl
  · exact ⟨_, c0⟩
  · exact ⟨_, c1⟩
  · exact ⟨_, c2⟩
  · exact ⟨_, c3⟩
  · exact ⟨_, c4⟩
set_option maxHeartbeats 2000000 in
theorem edRename (h : EdB w0.heap.size E bv t w) (hG : Grew w0 w) (hT : TOk t) (o : Opn) :
    Calls Tryz.prog 49 #[.pointer (some ⟨E, 0, none⟩), o.agg] w (MEnd w0 E (setU t o.unit fun b => { b with title := o.title }) (if (brFind t.brs o.unit).isSome then 0 else 7)) := by
  have hC := fun W (hW : Grew (w.alloc (.cells o.cells.toArray 25)) W) => opn_cells o hW
  have HC := Lib.hid hC
  have HG := Lib.hid hG
  cases hb : brFind t.brs o.unit with
  | none =>
    have KB := Lib.hid (fun W (hW : Grew w W) => edBranchNo (h.grew hW) hT.asc hT.len hb)
    dsimp only [Option.isSome_none]
    obtain ⟨oi, od, ok, ou, op, ob, ol, ot, om, oo, oa, on⟩ := o
    unfold Opn.agg
    clear h hG hT hb hC
    dsimp only [Opn.cells] at KB HC ⊢
    go_enter Tryz.func49, Tryz.ntmps49
    go_wp2_with fail
    refine (KB.out _ ((Grew.refl w).alloc _)).mono ?_
    rintro e w1 ⟨rfl, g1⟩
    dsimp only
    go_wp2
    go_ret
    exact ⟨rfl, HG.out.trans (((Grew.refl w).alloc _).trans g1), fun h => by cases h⟩
  | some b =>
    obtain ⟨i, hi, -, ei⟩ := find_at hb
    obtain ⟨B, cap, hbv⟩ := h.at_ hi
    have KB := Lib.hid (fun W (hW : Grew w W) => edBranch (h.grew hW) hT.asc hT.len hi hbv)
    have HD := Lib.hid (fun W (hW : Grew w W) => fieldDone (h.grew hW) (hG.trans hW) hT hi (j := 3) (by omega) hbv (fun b => { b with title := o.title }) (.string o.title) (fun _ => rfl) rfl ei)
    rw [ei] at KB
    dsimp only [Option.isSome_some]
    generalize (setU t o.unit fun b => { b with title := o.title }) = R at HD ⊢
    obtain ⟨oi, od, ok, ou, op, ob, ol, ot, om, oo, oa, on⟩ := o
    unfold Opn.agg
    clear h hG hT hb hC hbv ei
    dsimp only [Opn.cells] at KB HC HD ⊢
    go_enter Tryz.func49, Tryz.ntmps49
    go_wp2_with fail
    refine (KB.out _ ((Grew.refl w).alloc _)).mono ?_
    rintro e w1 ⟨rfl, g1⟩
    obtain ⟨-, -, -, -, o7, -⟩ := HC.out w1 g1
    obtain ⟨hd, hz, vz, hcz⟩ := HD.out w1 (((Grew.refl w).alloc _).trans g1)
    have HDD := Lib.hid hd
    clear hd g1
    dsimp only
    go_wp2
    go_ret
    exact HDD.out
set_option maxHeartbeats 2000000 in
theorem edMark (h : EdB w0.heap.size E bv t w) (hG : Grew w0 w) (hT : TOk t) (o : Opn) :
    Calls Tryz.prog 50 #[.pointer (some ⟨E, 0, none⟩), o.agg] w (MEnd w0 E (setU t o.unit fun b => { b with mark := o.mark }) (if (brFind t.brs o.unit).isSome then (if usedB t o.mark o.unit then 19 else 0) else 7)) := by
  have hC := fun W (hW : Grew (w.alloc (.cells o.cells.toArray 25)) W) => opn_cells o hW
  have HC := Lib.hid hC
  have HG := Lib.hid hG
  cases hb : brFind t.brs o.unit with
  | none =>
    have KB := Lib.hid (fun W (hW : Grew w W) => edBranchNo (h.grew hW) hT.asc hT.len hb)
    dsimp only [Option.isSome_none]
    obtain ⟨oi, od, ok, ou, op, ob, ol, ot, om, oo, oa, on⟩ := o
    unfold Opn.agg
    clear h hG hT hb hC
    dsimp only [Opn.cells] at KB HC ⊢
    go_enter Tryz.func50, Tryz.ntmps50
    go_wp2_with fail
    refine (KB.out _ ((Grew.refl w).alloc _)).mono ?_
    rintro e w1 ⟨rfl, g1⟩
    dsimp only
    go_wp2
    go_ret
    exact ⟨rfl, HG.out.trans (((Grew.refl w).alloc _).trans g1), fun h => by cases h⟩
  | some b =>
    obtain ⟨i, hi, -, ei⟩ := find_at hb
    obtain ⟨B, cap, hbv⟩ := h.at_ hi
    have KB := Lib.hid (fun W (hW : Grew w W) => edBranch (h.grew hW) hT.asc hT.len hi hbv)
    have KU := Lib.hid (fun W (hW : Grew w W) => edUsed (h.grew hW) hT o.mark o.unit)
    have HD := Lib.hid (fun W (hW : Grew w W) => fieldDone (h.grew hW) (hG.trans hW) hT hi (j := 4) (by omega) hbv (fun b => { b with mark := o.mark }) (.string o.mark) (fun _ => rfl) rfl ei)
    rw [ei] at KB
    dsimp only [Option.isSome_some]
    generalize (setU t o.unit fun b => { b with mark := o.mark }) = R at HD ⊢
    generalize usedB t o.mark o.unit = q at KU ⊢
    obtain ⟨oi, od, ok, ou, op, ob, ol, ot, om, oo, oa, on⟩ := o
    unfold Opn.agg
    clear h hG hT hb hC hbv ei
    dsimp only [Opn.cells] at KB KU HC HD ⊢
    cases q
    · go_enter Tryz.func50, Tryz.ntmps50
      go_wp2_with fail
      refine (KB.out _ ((Grew.refl w).alloc _)).mono ?_
      rintro e w1 ⟨rfl, g1⟩
      obtain ⟨o3, -, -, -, -, o8⟩ := HC.out w1 g1
      have HG1 := Lib.hid g1
      clear g1
      dsimp only
      go_wp2_with fail
      refine (KU.out _ (((Grew.refl w).alloc _).trans HG1.out)).mono ?_
      rintro e w2 ⟨rfl, g2⟩
      have p8 := keep_cell g2 o8
      obtain ⟨hd, hz, vz, hcz⟩ := HD.out w2 ((((Grew.refl w).alloc _).trans HG1.out).trans g2)
      have HDD := Lib.hid hd
      clear hd g2 o3 o8
      dsimp only
      go_wp2
      go_ret
      exact HDD.out
    · go_enter Tryz.func50, Tryz.ntmps50
      go_wp2_with fail
      refine (KB.out _ ((Grew.refl w).alloc _)).mono ?_
      rintro e w1 ⟨rfl, g1⟩
      obtain ⟨o3, -, -, -, -, o8⟩ := HC.out w1 g1
      have HG1 := Lib.hid g1
      clear g1
      dsimp only
      go_wp2_with fail
      refine (KU.out _ (((Grew.refl w).alloc _).trans HG1.out)).mono ?_
      rintro e w2 ⟨rfl, g2⟩
      have HG2 := Lib.hid (HG.out.trans ((((Grew.refl w).alloc _).trans HG1.out).trans g2))
      clear g2 o3 o8
      dsimp only
      go_wp2
      go_ret
      exact ⟨rfl, HG2.out, fun h => by cases h⟩
end
end Go.Proofs.YtafncfomiolmgaaGreatDoor

/- slices.Delete of one branch, on a row of the call's own; all other blocks are as they were. No condition but the sizes that a slice can have. -/
namespace Go.Proofs.YtafncfomiolmgaaGreatDoor
open Go.RowKit

theorem own_stretch {w : World} {base : Nat} {e : TypeId} {k g m n cap : Nat} {xs : List Value} (h : w.ownsRow base e k (.slice (some ⟨g, 0, none⟩) m cap) m xs) (hmn : m ≤ n) (hn : n ≤ cap) : ∃ ds, w.ownsRow base e k (.slice (some ⟨g, 0, none⟩) n cap) n ds ∧ ds.take (m * k) = xs := by
  obtain ⟨hl, h2⟩ := h
  rcases h2 with ⟨h3, _⟩ | ⟨g', cap', cur, hv, hb, hh, hnc, hcm, hcs, htk⟩
  · cases h3
  · injection hv with hA _ hc
    injection hA with hA
    injection hA with hA _ _
    subst hA hc
    have hmk : m * k ≤ n * k := Nat.mul_le_mul_right k hmn
    have hnk : n * k ≤ cap * k := Nat.mul_le_mul_right k hn
    refine ⟨cur.toList.take (n * k), ⟨?_, .inr ⟨g, cap, cur, rfl, hb, hh, hn, hcm, hcs, rfl⟩⟩, ?_⟩
    · rw [List.length_take, Array.length_toList, hcs]
      omega
    · rw [List.take_take, Nat.min_eq_left hmk]
      exact htk
theorem delDone {w0 w2 : World} {base g cap N k : Nat} {e : TypeId} {xs ds ds2 : List Value} (hds : ds.take (N * k) = xs) (h3 : w2.ownsRow base e k (.slice (some ⟨g, 0, none⟩) (N + 1) cap) (N + 1) ds2) (hd : ∀ t, t < N * k → ds2[t]? = ds[t]?) (hg : w0.grownBy w2 (some g)) :
    w2.ownsRow base e k (.slice (some ⟨g, 0, none⟩) N cap) N xs ∧ w0.grownBy w2 (some g) := by
  have h4 := own_cut h3 N (Nat.le_succ _)
  have : ds2.take (N * k) = xs := by
    rw [← hds]
    apply List.ext_getElem?
    intro t
    rw [List.getElem?_take, List.getElem?_take]
    split
    · next ht => exact hd t ht
    · rfl
  rw [this] at h4
  exact ⟨h4, hg⟩
set_option maxHeartbeats 4000000 in
set_option maxRecDepth 100000 in
theorem deleteB (base : Nat) (cs : List BrC) (i : Nat) (hi : i < cs.length) (v : Value) (w : World) (hown : w.ownsRow base 53 6 v cs.length (cs.flatMap BrC.cells)) (hone : ∀ c ∈ cs, c.kv.oneCell' = true) (hl : cs.length ≤ 1000000) :
    Calls Tryz.prog 95 #[v, .int .i64 i, .int .i64 ((i : Int) + 1)] w fun e w' => ∃ v', e = .returned v' ∧ w'.ownsRow base 53 6 v' (cs.eraseIdx i).length ((cs.eraseIdx i).flatMap BrC.cells) ∧ w.grownBy w' v.ownBlock ∧ v'.ownBlock = v.ownBlock := by
  obtain ⟨g, cap, rfl, hbg, hglt, hcap⟩ := own_form hown (by omega)
  have hcm : cap ≤ maxLen := own_max hown
  unfold maxLen at hcm
  obtain ⟨i0, hi0, hz0, hz1, hz2⟩ := info_parts cinfoB
  obtain ⟨N, hN⟩ : ∃ N, cs.length = N + 1 := ⟨cs.length - 1, by omega⟩
  have hfl := flatMap_len BrC.cells 6 (fun _ => rfl) cs
  obtain ⟨ht, hd⟩ := flat_take (f := BrC.cells) (k := 6) (fun _ => rfl) cs i
  obtain ⟨-, hd1⟩ := flat_take (f := BrC.cells) (k := 6) (fun _ => rfl) cs (i + 1)
  have hcut := own_cut hown i (by omega)
  have hE : (cs.eraseIdx i).flatMap BrC.cells = (cs.flatMap BrC.cells).take (i * 6) ++ (cs.flatMap BrC.cells).drop ((i + 1) * 6) := by
    rw [List.eraseIdx_eq_take_drop_succ, List.flatMap_append, ht, hd1]
  have hEl : (cs.eraseIdx i).length = N := by rw [List.length_eraseIdx_of_lt hi, hN]; omega
  have hnl : ((cs.flatMap BrC.cells).drop ((i + 1) * 6)).length = (N - i) * 6 := by rw [List.length_drop, hfl, hN, ← Nat.sub_mul]; congr 1; omega
  -- the append
  have happ : ∀ a : Addr, (0 < N - i → a = ⟨g, (i + 1) * 6, none⟩) → ∃ w', (∀ ty, (Builtin.append_ #[33, 33] ty #[.slice (some ⟨g, 0, none⟩) i cap, .slice (some a) (N - i) (cap - (i + 1))]).run Tryz.prog w.drew = .ok (.slice (some ⟨g, 0, none⟩) N cap) w') ∧ w'.ownsRow base 53 6 (.slice (some ⟨g, 0, none⟩) N cap) N ((cs.eraseIdx i).flatMap BrC.cells) ∧ w.grownBy w' (some g) := by
    intro a ha
    obtain ⟨w', h1, h2, h3⟩ := run_append_fits (P := Tryz.prog) w.drew base 33 0 53 i0 6 Tryz.underlying33 hi0 hz1 g i cap _ hcut a (N - i) (cap - (i + 1)) ((cs.flatMap BrC.cells).drop ((i + 1) * 6)) hnl (fun j u hj => by
      have hpos : 0 < N - i := by
        have := (List.getElem?_eq_some_iff.1 hj).1
        omega
      rw [ha hpos, add_lit]
      have hc := hown.cellAt ((i + 1) * 6 + j) (by have := (List.getElem?_eq_some_iff.1 hj).1; omega)
      show w.cell? _ = _
      rw [hc, ← List.getElem?_drop]
      exact hj) (fun u hu => one_cellsB cs hone u (List.mem_of_mem_drop hu)) (by omega)
    rw [show i + (N - i) = N by omega] at h1 h2
    refine ⟨w', fun ty => h1, ?_, ⟨h3.os, h3.tape, h3.output, h3.size, h3.block⟩⟩
    rw [hE]
    exact h2
  rw [hEl]
  generalize (cs.eraseIdx i).flatMap BrC.cells = XS at happ ⊢
  rw [hN] at hcap hi hown ⊢
  clear hfl ht hd hd1 hE hEl hnl hown hcut hone hl hN
  have hiz : (i : Int) ≤ ((N + 1 : Nat) : Int) := by omega
  have hi1 : ((i : Int) + 1) ≤ ((N + 1 : Nat) : Int) := by omega
  have h0z : (0 : Int) ≤ (i : Int) := by omega
  have h1z : (0 : Int) ≤ (i : Int) + 1 := by omega
  have hiz2 : (i : Int) ≤ (i : Int) + 1 := by omega
  have hne : ((i : Int) == (i : Int) + 1) = false := beq_eq_false_iff_ne.2 (by omega)
  have htn : ((i : Int) + 1).toNat = i + 1 := by omega
  have hi2 : i ≤ N + 1 := by omega
  have hi3 : i + 1 ≤ N + 1 := by omega
  have hi4 : i ≤ N := by omega
  have hi5 : i ≤ cap := by omega
  have hsub : N + 1 - (i + 1) = N - i := by omega
  by_cases hcc : cap = i + 1
  · obtain ⟨w1, hrun, ho1, hg1⟩ := happ ⟨g, 0, none⟩ (by omega)
    obtain rfl : N = i := by omega
    subst hcc
    simp only [Nat.sub_self] at hrun
    clear happ
    go_enter Tryz.func95, Tryz.ntmps95
    go_wp2_with fail
    refine region_still_tail 6 (by kernel_rfl) (by kernel_rfl) ?_
    simp only [List.take_succ_cons, List.take_zero, List.drop_succ_cons, List.drop_zero]
    iterate 6 still_step
    refine wpStill_nil ?_
    refine Lib.wpList_append_run _ rfl _ _ _ _ rfl _ _ rfl rfl _ _ (hrun _) ?_
    obtain ⟨ds, ho2, hds⟩ := own_stretch ho1 (Nat.le_succ _) (Nat.le_refl _)
    obtain ⟨w2, ds2, hclr, ho3, hg3, hd3⟩ := run_clear_own (P := Tryz.prog) w1 33 53 0 (.agg #[.int .i64 0, .int .i64 0, .int .i64 0, .string ⟨#[]⟩, .string ⟨#[]⟩, .slice none 0 0]) 6 Tryz.underlying33 Tryz.zeroValue53 rfl (by omega) (by simp [Value.cells, Value.oneCell']) ho2 N ((N + 1) - N) (Nat.lt_succ_self _)
    have hclr' : ∀ ty, (Builtin.clear_ #[33] ty #[.slice (some ⟨g, N * 6, none⟩) 1 1]).run Tryz.prog w1 = .ok (.tuple #[]) w2 := fun _ => by
      have h := hclr
      rw [show N + 1 - N = 1 by omega] at h
      exact h
    have HFIN := Lib.hid (delDone hds ho3 (fun t ht => hd3 t ht) (hg1.trans hg3))
    have hnz : (0 : Int) ≤ (N : Int) := by omega
    have hnz1 : (N : Int) ≤ ((N + 1 : Nat) : Int) := by omega
    have hnn : ¬ (N + 1) = N := by omega
    have hsb : N + 1 - N = 1 := by omega
    clear ho1 hg1 hrun ho2 hds hclr ho3 hg3 hd3
    go_wp2
    go_ret
    exact ⟨_, rfl, HFIN.out.1, HFIN.out.2, rfl⟩
  · obtain ⟨w1, hrun, ho1, hg1⟩ := happ ⟨g, (i + 1) * 6, none⟩ (fun _ => rfl)
    clear happ
    go_enter Tryz.func95, Tryz.ntmps95
    go_wp2_with fail
    refine region_still_tail 6 (by kernel_rfl) (by kernel_rfl) ?_
    simp only [List.take_succ_cons, List.take_zero, List.drop_succ_cons, List.drop_zero]
    iterate 6 still_step
    refine wpStill_nil ?_
    refine Lib.wpList_append_run _ rfl _ _ _ _ rfl _ _ rfl rfl _ _ (hrun _) ?_
    obtain ⟨ds, ho2, hds⟩ := own_stretch ho1 (Nat.le_succ _) hcap
    obtain ⟨w2, ds2, hclr, ho3, hg3, hd3⟩ := run_clear_own (P := Tryz.prog) w1 33 53 0 (.agg #[.int .i64 0, .int .i64 0, .int .i64 0, .string ⟨#[]⟩, .string ⟨#[]⟩, .slice none 0 0]) 6 Tryz.underlying33 Tryz.zeroValue53 rfl (by omega) (by simp [Value.cells, Value.oneCell']) ho2 N (cap - N) (Nat.lt_succ_self _)
    have hclr' : ∀ ty, (Builtin.clear_ #[33] ty #[.slice (some ⟨g, N * 6, none⟩) 1 (cap - N)]).run Tryz.prog w1 = .ok (.tuple #[]) w2 := fun _ => by
      have h := hclr
      rw [show N + 1 - N = 1 by omega] at h
      exact h
    have HFIN := Lib.hid (delDone hds ho3 (fun t ht => hd3 t ht) (hg1.trans hg3))
    have hnz : (0 : Int) ≤ (N : Int) := by omega
    have hnz1 : (N : Int) ≤ ((N + 1 : Nat) : Int) := by omega
    have hnn : ¬ cap = N := by omega
    have hsb : N + 1 - N = 1 := by omega
    clear ho1 hg1 hrun ho2 hds hclr ho3 hg3 hd3
    go_wp2
    go_ret
    exact ⟨_, rfl, HFIN.out.1, HFIN.out.2, rfl⟩
end Go.Proofs.YtafncfomiolmgaaGreatDoor
