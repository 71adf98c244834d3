/- Lemmas on what the functions of the program and of the library compute: PlainQ, Es2, Es10, Es3, Bk1, RT1, TM1, PlainZ. The conditions stand at each. -/
import Derived.Test.YtafncfomiolmgaaGreatDoorQ7
import Derived.Deep.CutRange
import Derived.Deep.RegionHeld3
import Derived.Test.YtafncfomiolmgaaGreatDoorQ5
import Derived.Test.YtafncfomiolmgaaGreatDoorQ3
import Derived.Test.YtafncfomiolmgaaGreatDoorQ4
import Derived.Test.YtafncfomiolmgaaGreatDoorQ1
import Derived.Test.YtafncfomiolmgaaGreatDoorQ2
/- A unit that is created: the tree stays right but for its depth. No condition. -/
namespace Go.Proofs.YtafncfomiolmgaaGreatDoor
open Go.RowKit

theorem mem_insB (b x : Br) : ∀ l : List Br, x ∈ insB b l ↔ x = b ∨ x ∈ l
  | [] => by simp [insB]
  | y :: r => by
    unfold insB
    split
    · rw [List.mem_cons, mem_insB b x r, List.mem_cons]
      constructor
      · rintro (h | h | h)
        · exact .inr (.inl h)
        · exact .inl h
        · exact .inr (.inr h)
      · rintro (h | h | h)
        · exact .inr (.inl h)
        · exact .inl h
        · exact .inr (.inr h)
    · simp
theorem len_insB (b : Br) : ∀ l : List Br, (insB b l).length = l.length + 1
  | [] => rfl
  | y :: r => by
    unfold insB
    split
    · simp only [List.length_cons]; rw [len_insB b r]
    · rfl
theorem asc_insB (b : Br) : ∀ l : List Br, idsAsc l → (∀ c ∈ l, c.id ≠ b.id) → idsAsc (insB b l)
  | [], _, _ => by simp [insB, idsAsc]
  | y :: r, h, hn => by
    have h' := List.pairwise_cons.1 h
    unfold insB
    split
    · rename_i hy
      refine List.pairwise_cons.2 ⟨fun z hz => ?_, asc_insB b r h'.2 (fun c hc => hn c (List.mem_cons_of_mem _ hc))⟩
      rcases (mem_insB b z r).1 hz with rfl | hz
      · exact hy
      · exact h'.1 z hz
    · rename_i hy
      have hyb := hn y (List.mem_cons_self ..)
      refine List.pairwise_cons.2 ⟨fun z hz => ?_, h⟩
      rcases List.mem_cons.1 hz with rfl | hz
      · omega
      · have := h'.1 z hz; omega
theorem mem_putF {n before : Int} : ∀ {ks : List Int}, (before = 0 → (0 : Int) ∉ ks) → (before ≠ 0 → before ∈ ks) → ∀ x, x ∈ putF n before ks ↔ x = n ∨ x ∈ ks
  | [], _, h2, x => by
    unfold putF
    by_cases hb : before = 0
    · simp [hb]
    · have := h2 hb; cases this
  | y :: r, h1, h2, x => by
    unfold putF
    split
    · simp
    · rename_i hy
      have ih := mem_putF (n := n) (before := before) (ks := r) (fun h hm => h1 h (List.mem_cons_of_mem _ hm)) (fun h => by
        rcases List.mem_cons.1 (h2 h) with e | h
        · exact absurd e.symm hy
        · exact h) x
      rw [List.mem_cons, ih, List.mem_cons]
      constructor
      · rintro (h | h | h)
        · exact .inr (.inl h)
        · exact .inl h
        · exact .inr (.inr h)
      · rintro (h | h | h)
        · exact .inr (.inl h)
        · exact .inl h
        · exact .inr (.inr h)
theorem nodup_putF {n before : Int} : ∀ {ks : List Int}, (before = 0 → (0 : Int) ∉ ks) → (before ≠ 0 → before ∈ ks) → ks.Nodup → n ∉ ks → (putF n before ks).Nodup
  | [], _, _, _, _ => by unfold putF; split <;> simp
  | y :: r, h1, h2, h3, h4 => by
    have h3' := List.nodup_cons.1 h3
    rw [List.mem_cons, not_or] at h4
    unfold putF
    split
    · exact List.nodup_cons.2 ⟨by rw [List.mem_cons, not_or]; exact h4, h3⟩
    · rename_i hy
      have g1 : before = 0 → (0 : Int) ∉ r := fun h hm => h1 h (List.mem_cons_of_mem _ hm)
      have g2 : before ≠ 0 → before ∈ r := fun h => by
        rcases List.mem_cons.1 (h2 h) with e | h
        · exact absurd e.symm hy
        · exact h
      refine List.nodup_cons.2 ⟨fun hm => ?_, nodup_putF g1 g2 h3'.2 h4.2⟩
      rcases (mem_putF g1 g2 y).1 hm with e | hm
      · exact h4.1 e.symm
      · exact h3'.1 hm
/-- The place that a new unit gets is there, and fits. -/
def StandsT (l : List Br) (parent level : Int) : Prop := (parent = 0 ∧ level = 1) ∨ (parent ≠ 0 ∧ ∃ p ∈ l, p.id = parent ∧ fitsF p.level level = true)
theorem core_insB {l : List Br} (h : CoreM l) (b : Br) (hl : l.length < 256) (hn : ∀ c ∈ l, c.id ≠ b.id) (hu : UnitOk b) (hm : ∀ c ∈ l, b.mark.toList.isEmpty = false → c.mark.toList ≠ b.mark.toList) (hs : StandsT l b.parent b.level) : CoreM (insB b l) := by
  have hasc := asc_insB b l h.asc hn
  refine ⟨by rw [len_insB]; omega, hasc, ?_, ?_, ?_, ?_⟩
  · intro c hc
    rcases (mem_insB b c l).1 hc with rfl | hc
    · exact hu
    · exact h.units c hc
  · intro c hc d hd hne he
    rcases (mem_insB b c l).1 hc with hcb | hc1 <;> rcases (mem_insB _ d l).1 hd with hdb | hd1
    · rw [hcb, hdb]
    · exact absurd (by rw [← hcb]; exact he.symm) (hm d hd1 (by rw [← hcb]; exact hne))
    · exact absurd (by rw [← hdb]; exact he) (hm c hc1 (by rw [← hdb, ← he]; exact hne))
    · exact h.marks c hc1 d hd1 hne he
  · intro c hc
    rw [placed_mem hasc]
    have hst : ∀ p lv, StandsT l p lv → (p = 0 ∧ lv = 1) ∨ (p ≠ 0 ∧ ∃ q ∈ insB b l, q.id = p ∧ fitsF q.level lv = true) := by
      rintro p lv (h1 | ⟨h1, q, hq, h2, h3⟩)
      · exact .inl h1
      · exact .inr ⟨h1, q, (mem_insB b q l).2 (.inr hq), h2, h3⟩
    rcases (mem_insB b c l).1 hc with rfl | hc
    · exact hst _ _ hs
    · exact hst _ _ ((placed_mem h.asc c).1 (h.placed c hc))
  · obtain ⟨r, hr⟩ := h.rank
    have hup : ∀ c : Br, StandsT l c.parent c.level → c.parent ≠ 0 → c.parent ≠ b.id := by
      rintro c (⟨h1, _⟩ | ⟨_, q, hq, h2, _⟩) h0 e
      · exact h0 h1
      · exact hn q hq (by rw [h2]; exact e)
    refine ⟨fun x => if x = b.id then r b.parent + 1 else r x, fun c hc hp => ?_⟩
    rcases (mem_insB b c l).1 hc with rfl | hc
    · simp only [if_true]
      rw [if_neg (hup c hs hp)]
      omega
    · have h1 := hup c ((placed_mem h.asc c).1 (h.placed c hc)) hp
      simp only
      rw [if_neg h1, if_neg (hn c hc)]
      exact hr c hc hp
theorem childs_insB {t : Tr} (h : idsAsc t.brs) (b : Br) (hn : ∀ c ∈ t.brs, c.id ≠ b.id) (hb0 : b.id ≠ 0) (q : Int) : childs ⟨t.roots, insB b t.brs⟩ q = if q = b.id then b.kids else childs t q := by
  have hasc := asc_insB b t.brs h hn
  unfold childs
  by_cases hq : q = 0
  · subst hq
    rw [if_pos rfl, if_pos rfl, if_neg (fun e => hb0 e.symm)]
  · simp only [if_neg hq]
    by_cases hqb : q = b.id
    · subst hqb
      rw [if_pos rfl, find_byid hasc ((mem_insB b b t.brs).2 (.inl rfl))]
    · rw [if_neg hqb]
      cases hf : brFind t.brs q with
      | some c =>
        have hc := find_in hf
        rw [(find_iff hasc q c).2 ⟨(mem_insB b c t.brs).2 (.inr hc.1), hc.2⟩]
      | none =>
        rw [(find_none q).2 (fun c hc => by
          rcases (mem_insB b c t.brs).1 hc with rfl | hc
          · exact fun e => hqb e.symm
          · exact (find_none q).1 hf c hc)]
theorem kids_insB {l : List Br} (b : Br) (ks : List Int) (p : Int) (hn : ∀ c ∈ l, c.id ≠ b.id) : KidsAre (insB b l) ks p ↔ (if b.parent = p then ks.Nodup ∧ ∀ x, x ∈ ks ↔ x = b.id ∨ ∃ c ∈ l, c.parent = p ∧ c.id = x else KidsAre l ks p) := by
  unfold KidsAre
  have hx : ∀ x, (∃ c ∈ insB b l, c.parent = p ∧ c.id = x) ↔ (b.parent = p ∧ x = b.id) ∨ ∃ c ∈ l, c.parent = p ∧ c.id = x := by
    intro x
    constructor
    · rintro ⟨c, hc, h1, h2⟩
      rcases (mem_insB b c l).1 hc with rfl | hc
      · exact .inl ⟨h1, h2.symm⟩
      · exact .inr ⟨c, hc, h1, h2⟩
    · rintro (⟨h1, rfl⟩ | ⟨c, hc, h1, h2⟩)
      · exact ⟨b, (mem_insB b b l).2 (.inl rfl), h1, rfl⟩
      · exact ⟨c, (mem_insB b c l).2 (.inr hc), h1, h2⟩
  simp only [hx]
  by_cases hp : b.parent = p <;> simp [hp]
/-- A unit that may be created. -/
structure CanCreate (t : Tr) (o : Opn) : Prop where
  new : ∀ c ∈ t.brs, c.id ≠ o.unit
  unit : UnitOk ⟨o.unit, o.parent, o.level, o.title, o.mark, []⟩
  stands : StandsT t.brs o.parent o.level
  before : o.before ≠ 0 → o.before ∈ childs t o.parent
  mark : ∀ c ∈ t.brs, o.mark.toList.isEmpty = false → c.mark.toList ≠ o.mark.toList
  room : t.brs.length < 256
theorem create_sound {t : Tr} {o : Opn} (h : SoundM t) (hc : CanCreate t o) : SoundM (createT t o) := by
  obtain ⟨hC, hK⟩ := (sound_parts t).1 h
  have hu0 : o.unit ≠ 0 := unit_pos hc.unit
  have hp : o.parent = 0 ∨ ∃ b ∈ t.brs, b.id = o.parent := by
    rcases hc.stands with ⟨h1, _⟩ | ⟨_, q, hq, h2, _⟩
    · exact .inl h1
    · exact .inr ⟨q, hq, h2⟩
  have hKp := hK o.parent hp
  have h00 : (0 : Int) ∉ childs t o.parent := fun hm => by
    obtain ⟨b, hb, _, e⟩ := (hKp.2 0).1 hm
    exact unit_pos (hC.units b hb) e
  have hun : o.unit ∉ childs t o.parent := fun hm => by
    obtain ⟨b, hb, _, e⟩ := (hKp.2 o.unit).1 hm
    exact hc.new b hb e
  have hpu : o.parent ≠ o.unit := fun e => by
    rcases hp with h1 | ⟨b, hb, e2⟩
    · exact hu0 (by rw [← e]; exact h1)
    · exact hc.new b hb (by rw [e2]; exact e)
  have hT := setK_core o.parent (putF o.unit o.before (childs t o.parent)) hC
  have hids := setK_ids t o.parent (putF o.unit o.before (childs t o.parent))
  have hch := setK_childs (t := t) o.parent (putF o.unit o.before (childs t o.parent))
  have hkd := setK_kids t o.parent (putF o.unit o.before (childs t o.parent))
  have hmem : ∀ c ∈ (setK t o.parent (putF o.unit o.before (childs t o.parent))).brs, ∃ d ∈ t.brs, core c = core d := by
    intro c hcm
    rw [setK_brs] at hcm
    split at hcm
    · exact ⟨c, hcm, rfl⟩
    · obtain ⟨d, hd, rfl⟩ := List.mem_map.1 hcm
      exact ⟨d, hd, kidG_core _ _ d⟩
  have hmem2 : ∀ d ∈ t.brs, ∃ c ∈ (setK t o.parent (putF o.unit o.before (childs t o.parent))).brs, core c = core d := by
    intro d hd
    rw [setK_brs]
    split
    · exact ⟨d, hd, rfl⟩
    · exact ⟨_, List.mem_map.2 ⟨d, hd, rfl⟩, kidG_core _ _ d⟩
  have hlen : (setK t o.parent (putF o.unit o.before (childs t o.parent))).brs.length = t.brs.length := by
    rw [setK_brs]
    split
    · rfl
    · rw [List.length_map]
  unfold createT
  generalize setK t o.parent (putF o.unit o.before (childs t o.parent)) = t1 at hT hids hch hkd hmem hmem2 hlen ⊢
  have hn1 : ∀ c ∈ t1.brs, c.id ≠ o.unit := fun c hcm e => by
    obtain ⟨d, hd, he⟩ := hmem c hcm
    exact hc.new d hd (by rw [← (core_all he).1]; exact e)
  rw [sound_parts]
  refine ⟨core_insB hT _ (by rw [hlen]; exact hc.room) hn1 hc.unit (fun c hcm hne => ?_) ?_, fun q hq => ?_⟩
  · obtain ⟨d, hd, he⟩ := hmem c hcm
    rw [(core_all he).2.2.2.2]
    exact hc.mark d hd hne
  · rcases hc.stands with h1 | ⟨h1, p, hpm, h2, h3⟩
    · exact .inl h1
    · obtain ⟨c, hcm, he⟩ := hmem2 p hpm
      exact .inr ⟨h1, c, hcm, by rw [(core_all he).1]; exact h2, by rw [(core_all he).2.2.1]; exact h3⟩
  · rw [childs_insB hT.asc _ hn1 hu0, kids_insB _ _ _ hn1]
    by_cases hqu : q = o.unit
    · rw [if_pos hqu, if_neg (by rw [hqu]; exact hpu)]
      refine ⟨by simp, fun x => ⟨(fun hx => by cases hx), ?_⟩⟩
      rintro ⟨c, hcm, h1, _⟩
      exfalso
      have hpl := (placed_mem hT.asc c).1 (hT.placed c hcm)
      rcases hpl with ⟨h2, _⟩ | ⟨_, p, hpm, h2, _⟩
      · exact hu0 (by rw [← hqu, ← h1]; exact h2)
      · exact hn1 p hpm (by rw [h2, h1]; exact hqu)
    · rw [if_neg hqu, hch q hp]
      by_cases hqp : o.parent = q
      · subst hqp
        rw [if_pos rfl, if_pos rfl]
        refine ⟨nodup_putF (fun _ => h00) hc.before hKp.1 hun, fun x => ?_⟩
        rw [mem_putF (fun _ => h00) hc.before, ← ((hkd (childs t o.parent) o.parent).2 hKp).2 x]
      · rw [if_neg hqp, if_neg (fun e => hqp e.symm)]
        refine (hkd _ _).2 (hK q ?_)
        rcases hq with h1 | ⟨b, hb, e⟩
        · exact .inl h1
        · rcases (mem_insB _ b t1.brs).1 hb with rfl | hb
          · exact absurd e.symm hqu
          · exact .inr ((hids q).1 ⟨b, hb, e⟩)
end Go.Proofs.YtafncfomiolmgaaGreatDoor

/- The editor's put and take, walked. The conditions: the units ascend; the lists are short. -/
namespace Go.Proofs.YtafncfomiolmgaaGreatDoor
open Go.RowKit

/-- Where slices.Index sends a number that is put into a list. -/
theorem putF_idx (n before : Int) : ∀ (ks : List Int), (before = 0 → (0 : Int) ∉ ks) → (before ≠ 0 → before ∈ ks) → ∃ k, k ≤ ks.length ∧ putF n before ks = ks.take k ++ [n] ++ ks.drop k ∧ ((idxP (fun y => before == y) ks = (k : Int)) ∨ (idxP (fun y => before == y) ks = -1 ∧ k = ks.length)) := by
  intro ks h1 h2
  by_cases h0 : before = 0
  · subst h0
    refine ⟨ks.length, Nat.le_refl _, ?_, .inr ⟨idxP_miss _ _ (fun i hi => ?_), rfl⟩⟩
    · rw [List.take_length, List.drop_length, List.append_nil]
      have := h1 rfl
      clear h1 h2
      induction ks with
      | nil => rfl
      | cons x r ih =>
        have hx : x ≠ 0 := fun e => this (by rw [e]; simp)
        unfold putF
        rw [if_neg hx, ih (fun hm => this (List.mem_cons_of_mem _ hm))]
        rfl
    · have hm := List.getElem_mem hi
      simp only [beq_eq_false_iff_ne]
      exact fun e => h1 rfl (by rw [e]; exact hm)
  · have hm := h2 h0
    clear h1 h2
    have key : ∀ ks : List Int, before ∈ ks → ∃ k, ∃ hk : k < ks.length, ks[k] = before ∧ (∀ i (hi : i < ks.length), i < k → ks[i] ≠ before) ∧ putF n before ks = ks.take k ++ [n] ++ ks.drop k := by
      intro ks
      induction ks with
      | nil => intro h; cases h
      | cons x r ih =>
        intro h
        by_cases hx : x = before
        · refine ⟨0, by simp, by simpa using hx, fun i _ hi => absurd hi (Nat.not_lt_zero _), ?_⟩
          unfold putF
          rw [if_pos hx]
          rfl
        · have hr : before ∈ r := by
            rcases List.mem_cons.1 h with e | h
            · exact absurd e.symm hx
            · exact h
          obtain ⟨k, hk, e1, e2, e3⟩ := ih hr
          refine ⟨k + 1, Nat.succ_lt_succ hk, by simpa using e1, fun i hi hik => ?_, ?_⟩
          · cases i with
            | zero => exact hx
            | succ i => exact e2 i (Nat.lt_of_succ_lt_succ hi) (by omega)
          · unfold putF
            rw [if_neg hx, e3]
            rfl
    obtain ⟨k, hk, e1, e2, e3⟩ := key ks hm
    refine ⟨k, by omega, e3, .inl (idxP_hit _ _ k hk (by rw [e1]; simp) (fun i hi hik => ?_))⟩
    simp only [beq_eq_false_iff_ne]
    exact fun e => e2 i hi hik e.symm
section
variable {w0 : World} {E : Nat} {bv : Value} {t : Tr} {w : World}
theorem putDone {w1 w3 : World} {p : Int} {ab ao : Nat} {kv v3 : Value} {L : List Int} {n : Int} {k : Nat} {R : Tr} (h : KAt w0.heap.size E bv t p ⟨ab, ao, none⟩ kv w1) (hR : setK t p (L.take k ++ [n] ++ L.drop k) = R) (hG : Grew w0 w1) (own : w3.ownsRow w0.heap.size 3 1 v3 (L.length + 1) ((L.take k ++ [n] ++ L.drop k).flatMap oneI))
    (hg : (w1.alloc (.cells #[.int .i64 n] 3)).grownBy w3 kv.ownBlock) (hat : v3.ownBlock = kv.ownBlock ∨ ∀ b, v3.ownBlock = some b → (w1.alloc (.cells #[.int .i64 n] 3)).heap.size ≤ b) : EdB w0.heap.size E bv R (w3.setCell ⟨ab, ao, none⟩ v3) ∧ Grew w0 (w3.setCell ⟨ab, ao, none⟩ v3) := by
  have hgr := (World.grownBy_alloc w1 (.cells #[.int .i64 n] 3) kv.ownBlock).trans hg
  have hl : (L.take k ++ [n] ++ L.drop k).length = L.length + 1 := by
    simp only [List.length_append, List.length_take, List.length_drop, List.length_cons, List.length_nil]
    omega
  refine ⟨?_, ?_⟩
  · rw [← hR]
    refine h.back w3 v3 _ hgr ?_ (hat.imp_right fun hb b e => by have := hb b e; simp at this; omega)
    unfold OwnI
    rw [hl]
    exact own
  · exact (Below.grown hG hgr hG.size (fun b e => (h.own.lt b e).1)).setCell (p := ⟨ab, ao, none⟩) h.lo v3
set_option maxHeartbeats 4000000 in
theorem edPut (h : EdB w0.heap.size E bv t w) (hG : Grew w0 w) (hasc : idsAsc t.brs) (hlen : t.brs.length ≤ 1000000) {p : Int} (hp : p = 0 ∨ ∃ b ∈ t.brs, b.id = p) (n before : Int) (h1 : before = 0 → (0 : Int) ∉ childs t p) (h2 : before ≠ 0 → before ∈ childs t p) (hkl : (childs t p).length ≤ 1000000) :
    Calls Tryz.prog 92 #[.pointer (some ⟨E, 0, none⟩), .int .i64 n, .int .i64 p, .int .i64 before] w fun e w' => e = .returned (.tuple #[]) ∧ EdB w0.heap.size E bv (setK t p (putF n before (childs t p))) w' ∧ Grew w0 w' := by
  have K := Lib.hid (edKids h hasc hlen hp)
  obtain ⟨k, hk, hput, hidx⟩ := putF_idx n before (childs t p) h1 h2
  have HL2 := Lib.hid hput
  have HKL := Lib.hid hkl
  have HG := Lib.hid hG
  clear h hG hasc hlen hp h1 h2 hput hkl
  go_enter Tryz.func92, Tryz.ntmps92
  go_wp2_with fail
  refine K.out.mono ?_
  rintro e w1 ⟨ab, ao, kv, rfl, hkat, g1⟩
  have c1 := hkat.cell
  have HKAT := Lib.hid hkat
  have HG1 := Lib.hid (HG.out.trans g1)
  have hix := indexI (childs t p) before kv w1 (Rd.of_own hkat.own)
  have hins := fun (hi : k ≤ (childs t p).length) => insertI w0 (childs t p) n k w1.heap.size kv (w1.alloc (.cells #[.int .i64 n] 3)) (hkat.own.alloc _) (HG1.out.alloc _) hi HKL.out (World.alloc_heap_new w1 _) (fun e => by
    have := (hkat.own.lt _ e.symm).2
    omega)
  have hbk := fun w2 v' ks' h1 h2 h3 => hkat.back w2 v' ks' h1 h2 h3
  obtain ⟨Ak, ck, rfl⟩ := own_slice hkat.own
  have HIX := Lib.hid hix
  have HINS := Lib.hid (hins hk)
  clear g1 hkat hix hins hbk
  have hlz : (0 : Int) ≤ ((childs t p).length : Int) := by omega
  have hkz : (0 : Int) ≤ (k : Int) := by omega
  generalize hR : setK t p (putF n before (childs t p)) = R at ⊢
  have HR := Lib.hid hR
  clear hR
  generalize hL : childs t p = L at HKAT HIX HINS HKL hk hidx c1 hlz HL2
  rcases hidx with hidx | ⟨hidx, hke⟩
  · rw [hidx] at HIX
    have hkn : ¬ (k : Int) < 0 := by omega
    dsimp only
    go_wp2_with fail
    refine HIX.out.mono ?_
    rintro e w2 ⟨rfl, rfl⟩
    dsimp only
    go_wp2_with fail
    refine HINS.out.mono ?_
    rintro e w3 ⟨v3, rfl, own3, hgr3, hat3⟩
    obtain ⟨A3, d3, rfl⟩ := own_slice own3
    have HFIN := Lib.hid (putDone (R := R) HKAT.out (by rw [← HR.out, hL, HL2.out]) HG1.out own3 hgr3 hat3)
    have hgr := (World.grownBy_alloc w1 (.cells #[.int .i64 n] 3) (Value.ownBlock (.slice Ak L.length ck))).trans hgr3
    have c3 := hgr.cell c1 (fun e => HKAT.out.off e.symm)
    have f3 := (World.frozen?_of_block (a := ⟨ab, ao, none⟩) (hgr.block ab HKAT.out.lt (fun e => HKAT.out.off e.symm))).trans HKAT.out.frz
    clear own3 hgr3 hat3 hgr
    dsimp only
    go_wp2
    go_end0
    exact ⟨rfl, by rw [HR.out]; exact HFIN.out⟩
  · rw [hidx] at HIX
    subst hke
    dsimp only
    go_wp2_with fail
    refine HIX.out.mono ?_
    rintro e w2 ⟨rfl, rfl⟩
    dsimp only
    go_wp2_with fail
    refine HINS.out.mono ?_
    rintro e w3 ⟨v3, rfl, own3, hgr3, hat3⟩
    obtain ⟨A3, d3, rfl⟩ := own_slice own3
    have HFIN := Lib.hid (putDone (R := R) HKAT.out (by rw [← HR.out, hL, HL2.out]) HG1.out own3 hgr3 hat3)
    have hgr := (World.grownBy_alloc w1 (.cells #[.int .i64 n] 3) (Value.ownBlock (.slice Ak L.length ck))).trans hgr3
    have c3 := hgr.cell c1 (fun e => HKAT.out.off e.symm)
    have f3 := (World.frozen?_of_block (a := ⟨ab, ao, none⟩) (hgr.block ab HKAT.out.lt (fun e => HKAT.out.off e.symm))).trans HKAT.out.frz
    clear own3 hgr3 hat3 hgr
    dsimp only
    go_wp2
    go_end0
    exact ⟨rfl, by rw [HR.out]; exact HFIN.out⟩
end
end Go.Proofs.YtafncfomiolmgaaGreatDoor

/- rearrange: edit, walked: a copy of a tree on the heap, behind a pointer. The condition: the lists are short. -/
namespace Go.Proofs.YtafncfomiolmgaaGreatDoor
open Go.RowKit

theorem heap_grew {a b : World} (g : Grew a b) {X : Nat} {o : Obj} (h : a.heap[X]? = some o) : b.heap[X]? = some o := by
  rw [g.block X (Array.getElem?_eq_some_iff.1 h).1]
  exact h
theorem heap_allocE {a : World} {X : Nat} {p : Obj} (h : X = a.heap.size) : (a.alloc p).heap[X]? = some p := by
  subst h
  exact (MapKept.heap_alloc a p).1
theorem heldQ (w1 W : World) {p q : Addr} {x y : Value} (h : w1.cell? p = some x) (h2 : w1.cell? q = some y) (g : Grew w1 W) : W.cell? p = some x ∧ W.cell? q = some y ∧ Grew w1 W := ⟨keep_cell g h, keep_cell g h2, g⟩
theorem heldQ2 (w1 W : World) {p q : Addr} {x y : Value} (h : w1.cell? p = some x) (h2 : w1.cell? q = some y) (g : Grew w1 W) : W.cell? p = some x ∧ W.cell? q = some y := ⟨keep_cell g h, keep_cell g h2⟩
theorem heldQ3 (W : World) (a : Addr) (u : Value) {p q : Addr} {x y : Value} (hp : p.block ≠ a.block) (hq : q.block ≠ a.block) (h : W.cell? p = some x) (h2 : W.cell? q = some y) : (W.setCell a u).cell? p = some x ∧ (W.setCell a u).cell? q = some y := ⟨by
  rw [World.cell?_setCell_other _ _ _ _ (fun e => hp (by rw [e]))]
  exact h, by
  rw [World.cell?_setCell_other _ _ _ _ (fun e => hq (by rw [e]))]
  exact h2⟩
theorem new_frz {w W : World} {cs : List Value} {t : TypeId} (h : Grew (w.alloc (.cells cs.toArray t)) W) (j : Nat) : W.frozen? ⟨w.heap.size, j, none⟩ = false := (h.frozen (p := ⟨w.heap.size, j, none⟩) (by simp)).trans (by simp)
/-- Behind the first region: the copy's box, its two slices the call's own. -/
def EditCut (w : World) (t : Tr) (cs : List BrC) (s : Value) (W : World) : Prop := ∃ X rv bv, s = .pointer (some ⟨X, 0, none⟩) ∧ W.heap[X]? = some (.cells #[rv, bv] 35 (0, 0)) ∧ OwnI w.heap.size W rv t.roots ∧ W.ownsRow w.heap.size 53 6 bv cs.length (cs.flatMap BrC.cells) ∧ Grew w W ∧ w.heap.size ≤ X
theorem ne_IT : (3 : Nat) ≠ 35 := by decide
theorem ne_BT : (53 : Nat) ≠ 35 := by decide
theorem edit_meet {w W W1 W2 : World} {t : Tr} {cs : List BrC} {X : Nat} {a b v1 v2 : Value} (hX : W.heap[X]? = some (.cells #[a, b] 35 (0, 0))) (hlo : w.heap.size ≤ X) (hG : Grew w W) (h1 : OwnI w.heap.size W1 v1 t.roots) (g1 : Grew W1 W)
    (h2 : W2.ownsRow w.heap.size 53 6 v2 cs.length (cs.flatMap BrC.cells)) (g2 : Grew W2 W) : EditCut w t cs (.pointer (some ⟨X, 0, none⟩)) ((W.setCell ⟨X, 0, none⟩ v1).setCell ⟨X, 1, none⟩ v2) := by
  have hX1 : (W.setCell ⟨X, 0, none⟩ v1).heap[X]? = some (.cells #[v1, b] 35 (0, 0)) := by
    have := heap_setCell_same W X 0 #[a, b] 35 v1 hX
    simpa using this
  have hX2 : ((W.setCell ⟨X, 0, none⟩ v1).setCell ⟨X, 1, none⟩ v2).heap[X]? = some (.cells #[v1, v2] 35 (0, 0)) := by
    have := heap_setCell_same (W.setCell ⟨X, 0, none⟩ v1) X 1 #[v1, b] 35 v2 hX1
    simpa using this
  have h1W := own_later h1 g1
  have h2W := own_later h2 g2
  have h1a := ownsRow_setCell_other (a := ⟨X, 0, none⟩) h1W (own_ne (g := X) h1W hX ne_IT) v1
  have h2a := ownsRow_setCell_other (a := ⟨X, 0, none⟩) h2W (own_ne (g := X) h2W hX ne_BT) v1
  exact ⟨X, v1, v2, rfl, hX2, ownsRow_setCell_other (a := ⟨X, 1, none⟩) h1a (own_ne (g := X) h1a hX1 ne_IT) _, ownsRow_setCell_other (a := ⟨X, 1, none⟩) h2a (own_ne (g := X) h2a hX1 ne_BT) _, (hG.setCell hlo _).setCell hlo _, hlo⟩
theorem edit_meet2 {w W W1 W2 : World} {t : Tr} {cs : List BrC} {v1 v2 : Value} (hG : Grew w W) (h1 : OwnI w.heap.size W1 v1 t.roots) (g1 : Grew W1 W)
    (h2 : W2.ownsRow w.heap.size 53 6 v2 cs.length (cs.flatMap BrC.cells)) (g2 : Grew W2 W) : EditCut w t cs (.pointer (some ⟨W.heap.size, 0, none⟩)) (W.alloc (.cells #[v1, v2] 35)) :=
  ⟨_, v1, v2, rfl, heap_allocE rfl, own_later h1 (g1.alloc _), own_later h2 (g2.alloc _), hG.alloc _, hG.size⟩
/-- Behind a round of the loop. -/
def RoundCut (w : World) (rv bv : Value) (cs : List BrC) (t : Tr) (k X : Nat) (W : World) : Prop := ∃ cs', Half w rv bv cs' t (k + 1) W ∧ cs'.length = cs.length ∧ W.heap[X]? = some (.cells #[rv, bv] 35 (0, 0)) ∧ Grew w W
theorem round_meet {w w1 W : World} {rv v' : Value} {cs : List BrC} {t : Tr} {k X B cap : Nat} (h : Half w rv (.slice (some ⟨B, 0, none⟩) t.brs.length cap) cs t k w1) (hk : k < t.brs.length) (hG : Grew w w1) (hg : Grew w1 W) (hv : OwnI w1.heap.size W v' t.brs[k].kids)
    (hX : w1.heap[X]? = some (.cells #[rv, .slice (some ⟨B, 0, none⟩) t.brs.length cap] 35 (0, 0))) : RoundCut w rv (.slice (some ⟨B, 0, none⟩) t.brs.length cap) cs t k X (W.setCell ⟨B, k * 6 + 5, none⟩ v') := by
  have hne : X ≠ B := by
    intro e
    subst e
    obtain ⟨c, hc⟩ := own_ty h.brs (g := X) rfl
    rw [hX] at hc
    injection hc with hc
    injection hc with _ hc _
    exact ne_BT hc.symm
  refine ⟨_, h.step hk hG hg hv rfl, by simp, heap_set _ _ (heap_grew hg hX) hne, ?_⟩
  exact (hG.trans hg).setCell (h.brs.lt B rfl).1 _
set_option maxHeartbeats 4000000 in
set_option maxRecDepth 100000 in
theorem rEdit (t : Tr) (rv bv : Value) (w : World) (hr : SlI w rv t.roots) (hv : SlBr w bv t.brs) (hf : FewBr t.brs) (hrl : t.roots.length ≤ 1000000) :
    Calls Tryz.prog 53 #[.agg #[rv, bv]] w fun e w' => ∃ E bv', e = .returned (.pointer (some ⟨E, 0, none⟩)) ∧ EdB w.heap.size E bv' t w' ∧ Grew w w' := by
  obtain ⟨cs, hB, hcl, hok⟩ := hv
  have h1c : ∀ c ∈ cs, c.kv.oneCell' = true := by
    intro c hc
    obtain ⟨i, hi, rfl⟩ := List.mem_iff_getElem.1 hc
    exact slI_one (hok i hi (by omega)).2
  have hfl := hf.1
  have KR := Lib.hid (fun W (hW : Grew w W) => cloneI t.roots rv W (hr.mono hW) (by omega))
  have KB := Lib.hid (fun W (hW : Grew w W) => cloneB cs bv W (hB.mono hW) h1c (by omega))
  have HOK := Lib.hid hok
  have HFK := Lib.hid (fun k (hk : k < t.brs.length) => hf.2 k hk)
  obtain ⟨Ar, cr, rfl, -⟩ := SlI.open_ hr
  obtain ⟨Ab, cb, hbv, -⟩ := SlB.open_ hB
  rw [hcl] at hbv
  subst hbv
  have HCL := Lib.hid hcl
  clear hr hB h1c hok hf hrl hcl
  have b0 := new_cell (Grew.refl (w.alloc (.cells #[.slice Ar t.roots.length cr, .slice Ab t.brs.length cb] 35))) 0 _ rfl
  have b1 := new_cell (Grew.refl (w.alloc (.cells #[.slice Ar t.roots.length cr, .slice Ab t.brs.length cb] 35))) 1 _ rfl
  have GA := Lib.hid ((Grew.refl w).alloc (.cells #[.slice Ar t.roots.length cr, .slice Ab t.brs.length cb] 35))
  go_enter Tryz.func53, Tryz.ntmps53
  go_wp2_with fail
  generalize w.alloc (.cells #[.slice Ar t.roots.length cr, .slice Ab t.brs.length cb] 35) = WA at b0 b1 GA ⊢
  go_cut [3] from 6 to 12 (fun s3 wx => EditCut w t cs s3 wx)
  case first =>
    as_aux_lemma =>
    go_region_held3 (fun W => W.cell? ⟨w.heap.size, 0, none⟩ = some (.slice Ar t.roots.length cr) ∧ W.cell? ⟨w.heap.size, 1, none⟩ = some (.slice Ab t.brs.length cb) ∧ Grew WA W) (refine heldQ WA _ b0 b1 (by repeat (first | exact Grew.refl WA | exact GB1.out | exact GB2.out | refine Grew.drew ?_ | refine Grew.alloc ?_ _ | refine Grew.setCell ?_ (by first | exact Nat.le_refl _ | exact GB1.out.size | exact GB2.out.size | simp) _))) (first | (go_at_call 32; refine (KR.out _ (by repeat (first | exact GW2.out | exact GA.out | refine Grew.drew ?_ | refine Grew.alloc ?_ _))).mono ?_; rintro e w1 ⟨v1, rfl, ho1, g1⟩; have HO1 := Lib.hid (World.ownsRow.mono (base' := w.heap.size) ho1 (Grew.size (by repeat (first | exact GW2.out | exact GA.out | refine Grew.drew ?_ | refine Grew.alloc ?_ _)))); have GB1 := Lib.hid (show Grew WA w1 from Grew.trans (by repeat (first | exact Grew.refl WA | exact GB2.out | refine Grew.drew ?_ | refine Grew.alloc ?_ _)) g1); have GW1 := Lib.hid (GA.out.trans GB1.out); (try have GX1 := Lib.hid (show Grew w2 w1 from Grew.trans (by repeat (first | exact Grew.refl w2 | refine Grew.drew ?_ | refine Grew.alloc ?_ _)) g1)); have x10 := keep_cell GB1.out b0; have x11 := keep_cell GB1.out b1; have HG1 := Lib.hid g1; obtain ⟨A1, c1, rfl⟩ := own_slice ho1; (try have Na1 := Lib.hid (show Grew (WA.alloc (.cells [.slice none 0 0, .slice none 0 0].toArray 35)) w1 from Grew.trans (show Grew (WA.alloc (.cells [.slice none 0 0, .slice none 0 0].toArray 35)) ((WA.alloc (.cells [.slice none 0 0, .slice none 0 0].toArray 35)).drew) from (Grew.refl _).drew) g1)); (try have Nb1 := Lib.hid (show Grew (WA.alloc (.cells [.slice none 0 0, .slice none 0 0].toArray 35)) w1 from Grew.trans (show Grew (WA.alloc (.cells [.slice none 0 0, .slice none 0 0].toArray 35)) (WA.alloc (.cells [.slice none 0 0, .slice none 0 0].toArray 35)) from Grew.refl _) g1)); (try have Nc1 := Lib.hid (show Grew (w2.alloc (.cells [.slice none 0 0, .slice none 0 0].toArray 35)) w1 from Grew.trans (show Grew (w2.alloc (.cells [.slice none 0 0, .slice none 0 0].toArray 35)) ((w2.alloc (.cells [.slice none 0 0, .slice none 0 0].toArray 35)).drew) from (Grew.refl _).drew) g1)); (try have Nd1 := Lib.hid (show Grew (w2.alloc (.cells [.slice none 0 0, .slice none 0 0].toArray 35)) w1 from Grew.trans (show Grew (w2.alloc (.cells [.slice none 0 0, .slice none 0 0].toArray 35)) (w2.alloc (.cells [.slice none 0 0, .slice none 0 0].toArray 35)) from Grew.refl _) g1)); (try have Nea1 := Lib.hid (show Grew (WA.alloc (.cells [.slice none 0 0, .slice none 0 0].toArray 35)) w1 from Grew.trans Na2.out.drew g1)); (try have Nfa1 := Lib.hid (show Grew (WA.alloc (.cells [.slice none 0 0, .slice none 0 0].toArray 35)) w1 from Grew.trans Na2.out g1)); (try have Neb1 := Lib.hid (show Grew (WA.alloc (.cells [.slice none 0 0, .slice none 0 0].toArray 35)) w1 from Grew.trans Nb2.out.drew g1)); (try have Nfb1 := Lib.hid (show Grew (WA.alloc (.cells [.slice none 0 0, .slice none 0 0].toArray 35)) w1 from Grew.trans Nb2.out g1)); (try have cNa01 := new_cell Na1.out 0 _ rfl); (try have fNa01 := new_frz Na1.out 0); (try have cNa11 := new_cell Na1.out 1 _ rfl); (try have fNa11 := new_frz Na1.out 1); (try have cNb01 := new_cell Nb1.out 0 _ rfl); (try have fNb01 := new_frz Nb1.out 0); (try have cNb11 := new_cell Nb1.out 1 _ rfl); (try have fNb11 := new_frz Nb1.out 1); (try have cNc01 := new_cell Nc1.out 0 _ rfl); (try have fNc01 := new_frz Nc1.out 0); (try have cNc11 := new_cell Nc1.out 1 _ rfl); (try have fNc11 := new_frz Nc1.out 1); (try have cNd01 := new_cell Nd1.out 0 _ rfl); (try have fNd01 := new_frz Nd1.out 0); (try have cNd11 := new_cell Nd1.out 1 _ rfl); (try have fNd11 := new_frz Nd1.out 1); (try have cNea01 := new_cell Nea1.out 0 _ rfl); (try have fNea01 := new_frz Nea1.out 0); (try have cNea11 := new_cell Nea1.out 1 _ rfl); (try have fNea11 := new_frz Nea1.out 1); (try have cNeb01 := new_cell Neb1.out 0 _ rfl); (try have fNeb01 := new_frz Neb1.out 0); (try have cNeb11 := new_cell Neb1.out 1 _ rfl); (try have fNeb11 := new_frz Neb1.out 1); (try have cNfa01 := new_cell Nfa1.out 0 _ rfl); (try have fNfa01 := new_frz Nfa1.out 0); (try have cNfa11 := new_cell Nfa1.out 1 _ rfl); (try have fNfa11 := new_frz Nfa1.out 1); (try have cNfb01 := new_cell Nfb1.out 0 _ rfl); (try have fNfb01 := new_frz Nfb1.out 0); (try have cNfb11 := new_cell Nfb1.out 1 _ rfl); (try have fNfb11 := new_frz Nfb1.out 1); clear ho1 g1) | (go_at_call 54; refine (KB.out _ (by repeat (first | exact GW1.out | exact GA.out | refine Grew.drew ?_ | refine Grew.alloc ?_ _))).mono ?_; rintro e w2 ⟨v2, rfl, ho2, g2⟩; have HO2 := Lib.hid (World.ownsRow.mono (base' := w.heap.size) ho2 (Grew.size (by repeat (first | exact GW1.out | exact GA.out | refine Grew.drew ?_ | refine Grew.alloc ?_ _)))); have GB2 := Lib.hid (show Grew WA w2 from Grew.trans (by repeat (first | exact Grew.refl WA | exact GB1.out | refine Grew.drew ?_ | refine Grew.alloc ?_ _)) g2); have GW2 := Lib.hid (GA.out.trans GB2.out); (try have GX2 := Lib.hid (show Grew w1 w2 from Grew.trans (by repeat (first | exact Grew.refl w1 | refine Grew.drew ?_ | refine Grew.alloc ?_ _)) g2)); have x20 := keep_cell GB2.out b0; have x21 := keep_cell GB2.out b1; have HG2 := Lib.hid g2; obtain ⟨A2, c2, rfl⟩ := own_slice ho2; (try have Na2 := Lib.hid (show Grew (WA.alloc (.cells [.slice none 0 0, .slice none 0 0].toArray 35)) w2 from Grew.trans (show Grew (WA.alloc (.cells [.slice none 0 0, .slice none 0 0].toArray 35)) ((WA.alloc (.cells [.slice none 0 0, .slice none 0 0].toArray 35)).drew) from (Grew.refl _).drew) g2)); (try have Nb2 := Lib.hid (show Grew (WA.alloc (.cells [.slice none 0 0, .slice none 0 0].toArray 35)) w2 from Grew.trans (show Grew (WA.alloc (.cells [.slice none 0 0, .slice none 0 0].toArray 35)) (WA.alloc (.cells [.slice none 0 0, .slice none 0 0].toArray 35)) from Grew.refl _) g2)); (try have Nc2 := Lib.hid (show Grew (w1.alloc (.cells [.slice none 0 0, .slice none 0 0].toArray 35)) w2 from Grew.trans (show Grew (w1.alloc (.cells [.slice none 0 0, .slice none 0 0].toArray 35)) ((w1.alloc (.cells [.slice none 0 0, .slice none 0 0].toArray 35)).drew) from (Grew.refl _).drew) g2)); (try have Nd2 := Lib.hid (show Grew (w1.alloc (.cells [.slice none 0 0, .slice none 0 0].toArray 35)) w2 from Grew.trans (show Grew (w1.alloc (.cells [.slice none 0 0, .slice none 0 0].toArray 35)) (w1.alloc (.cells [.slice none 0 0, .slice none 0 0].toArray 35)) from Grew.refl _) g2)); (try have Nea2 := Lib.hid (show Grew (WA.alloc (.cells [.slice none 0 0, .slice none 0 0].toArray 35)) w2 from Grew.trans Na1.out.drew g2)); (try have Nfa2 := Lib.hid (show Grew (WA.alloc (.cells [.slice none 0 0, .slice none 0 0].toArray 35)) w2 from Grew.trans Na1.out g2)); (try have Neb2 := Lib.hid (show Grew (WA.alloc (.cells [.slice none 0 0, .slice none 0 0].toArray 35)) w2 from Grew.trans Nb1.out.drew g2)); (try have Nfb2 := Lib.hid (show Grew (WA.alloc (.cells [.slice none 0 0, .slice none 0 0].toArray 35)) w2 from Grew.trans Nb1.out g2)); (try have cNa02 := new_cell Na2.out 0 _ rfl); (try have fNa02 := new_frz Na2.out 0); (try have cNa12 := new_cell Na2.out 1 _ rfl); (try have fNa12 := new_frz Na2.out 1); (try have cNb02 := new_cell Nb2.out 0 _ rfl); (try have fNb02 := new_frz Nb2.out 0); (try have cNb12 := new_cell Nb2.out 1 _ rfl); (try have fNb12 := new_frz Nb2.out 1); (try have cNc02 := new_cell Nc2.out 0 _ rfl); (try have fNc02 := new_frz Nc2.out 0); (try have cNc12 := new_cell Nc2.out 1 _ rfl); (try have fNc12 := new_frz Nc2.out 1); (try have cNd02 := new_cell Nd2.out 0 _ rfl); (try have fNd02 := new_frz Nd2.out 0); (try have cNd12 := new_cell Nd2.out 1 _ rfl); (try have fNd12 := new_frz Nd2.out 1); (try have cNea02 := new_cell Nea2.out 0 _ rfl); (try have fNea02 := new_frz Nea2.out 0); (try have cNea12 := new_cell Nea2.out 1 _ rfl); (try have fNea12 := new_frz Nea2.out 1); (try have cNeb02 := new_cell Neb2.out 0 _ rfl); (try have fNeb02 := new_frz Neb2.out 0); (try have cNeb12 := new_cell Neb2.out 1 _ rfl); (try have fNeb12 := new_frz Neb2.out 1); (try have cNfa02 := new_cell Nfa2.out 0 _ rfl); (try have fNfa02 := new_frz Nfa2.out 0); (try have cNfa12 := new_cell Nfa2.out 1 _ rfl); (try have fNfa12 := new_frz Nfa2.out 1); (try have cNfb02 := new_cell Nfb2.out 0 _ rfl); (try have fNfb02 := new_frz Nfb2.out 0); (try have cNfb12 := new_cell Nfb2.out 1 _ rfl); (try have fNfb12 := new_frz Nfb2.out 1); clear ho2 g2))
    all_goals go_wp2_with fail
    all_goals go_meet
    all_goals first | refine edit_meet2 ?_ HO1.out ?_ HO2.out ?_ | refine edit_meet (a := .slice none 0 0) (b := .slice none 0 0) ?_ ?_ ?_ HO1.out ?_ HO2.out ?_
    all_goals first | exact GA.out.size | exact GW1.out.size | exact GW2.out.size | exact heap_allocE rfl | exact heap_grew Na1.out (heap_allocE rfl) | exact heap_grew Na2.out (heap_allocE rfl) | exact heap_grew Nb1.out (heap_allocE rfl) | exact heap_grew Nb2.out (heap_allocE rfl) | exact heap_grew Nc1.out (heap_allocE rfl) | exact heap_grew Nc2.out (heap_allocE rfl) | exact heap_grew Nd1.out (heap_allocE rfl) | exact heap_grew Nd2.out (heap_allocE rfl) | exact heap_grew Nea1.out (heap_allocE rfl) | exact heap_grew Nea2.out (heap_allocE rfl) | exact heap_grew Neb1.out (heap_allocE rfl) | exact heap_grew Neb2.out (heap_allocE rfl) | exact heap_grew Nfa1.out (heap_allocE rfl) | exact heap_grew Nfa2.out (heap_allocE rfl) | exact heap_grew Nfb1.out (heap_allocE rfl) | exact heap_grew Nfb2.out (heap_allocE rfl) | ((repeat (first | exact GW1.out | exact GW2.out | refine Grew.drew ?_ | refine Grew.alloc ?_ _)); done) | ((repeat (first | exact Grew.refl w1 | exact GX2.out | refine Grew.drew ?_ | refine Grew.alloc ?_ _)); done) | ((repeat (first | exact Grew.refl w2 | exact GX1.out | refine Grew.drew ?_ | refine Grew.alloc ?_ _)); done)
  case rest =>
    as_aux_lemma =>
    obtain ⟨X, rv, bv, rfl, hX, ho, hb, hG, hXlo⟩ := hcut
    rw [HCL.out] at hb
    have HS := Lib.hid (Half.start ho hb HCL.out HOK.out)
    obtain ⟨A1, c1, rfl⟩ := own_slice ho
    obtain ⟨A2, c2, rfl⟩ := own_slice hb
    have x0 : wc.cell? ⟨X, 0, none⟩ = some (.slice A1 t.roots.length c1) := by simp [World.cell?, hX]
    have x1 : wc.cell? ⟨X, 1, none⟩ = some (.slice A2 t.brs.length c2) := by simp [World.cell?, hX]
    have HX := Lib.hid hX
    have HGC := Lib.hid hG
    clear ho hb hX hG b0 b1 GA HOK KR KB
    go_wp2
    clear x0 x1
    go_loopg [16] t.brs.length (fun gg s16 wr => ∃ (k : Nat) (ds : List BrC), k ≤ t.brs.length ∧ t.brs.length - k ≤ gg ∧ s16 = .int .i64 k ∧ Aside (Half w (.slice A1 t.roots.length c1) (.slice A2 t.brs.length c2) ds t k wr) ∧ Aside (wr.heap[X]? = some (.cells #[.slice A1 t.roots.length c1, .slice A2 t.brs.length c2] 35 (0, 0))) ∧ Aside (Grew w wr))
    case atStart => exact ⟨0, cs, by omega, by omega, rfl, (show Aside _ from HS.out), (show Aside _ from HX.out), (show Aside _ from HGC.out)⟩
    case round =>
      clear HS HX HGC hXlo
      obtain ⟨k, ds, hkl, hgk, rfl, HH, HX, GW⟩ := hrel
      have x0 : wr.cell? ⟨X, 0, none⟩ = some (.slice A1 t.roots.length c1) := by have := HX.out; simp [World.cell?, this]
      have x1 : wr.cell? ⟨X, 1, none⟩ = some (.slice A2 t.brs.length c2) := by have := HX.out; simp [World.cell?, this]
      by_cases hlt : k < t.brs.length
      · have hltz : (k : Int) < (t.brs.length : Int) := by omega
        have h0z : (0 : Int) ≤ (k : Int) := by omega
        obtain ⟨B, cap, kv, e, hlo, hBs, hkv, hfz, c0, c1', c2', c3, c4, c5⟩ := HH.out.cells hlt
        injection e with e1 _ e2
        subst e1 e2
        have hlk := HFK.out k hlt
        have KK := Lib.hid (fun W (hW : Grew w W) => cloneI t.brs[k].kids kv W (hkv.mono hW) (by omega))
        obtain ⟨Ak, ck, rfl, -⟩ := SlI.open_ hkv
        have HY := Lib.hid (fun W v' (hg : Grew wr W) (hv : OwnI wr.heap.size W v' t.brs[k].kids) => round_meet HH.out hlt GW.out hg hv HX.out)
        have hz5 := hfz (k * 6 + 5)
        have hXB : X ≠ B := by
          intro e
          subst e
          obtain ⟨c, hc⟩ := own_ty HH.out.brs (g := X) rfl
          rw [HX.out] at hc
          injection hc with hc
          injection hc with _ hc _
          exact ne_BT hc.symm
        have hRB : wr.heap.size ≠ B := by omega
        clear hkv hlk hfz
        generalize t.brs[k] = y at c0 c1' c2' c3 c4 c5 KK HY
        obtain ⟨yi, yp, yl, yt, ym, yk⟩ := y
        dsimp only at c0 c1' c2' c3 c4 c5 KK HY
        go_wp2_with fail
        have d5 := new_cell (Grew.refl (wr.alloc (.cells #[.int .i64 yi, .int .i64 yp, .int .i64 yl, .string yt, .string ym, .slice Ak yk.length ck] 53))) 5 _ rfl
        have GB := Lib.hid ((Grew.refl wr).alloc (.cells #[.int .i64 yi, .int .i64 yp, .int .i64 yl, .string yt, .string ym, .slice Ak yk.length ck] 53))
        have f5 := (GB.out.frozen (p := ⟨B, k * 6 + 5, none⟩) hBs).trans hz5
        have y1 := keep_cell GB.out x1
        have y5 := keep_cell GB.out c5
        have hBs2 : B < (wr.alloc (.cells #[.int .i64 yi, .int .i64 yp, .int .i64 yl, .string yt, .string ym, .slice Ak yk.length ck] 53)).heap.size := Nat.lt_of_lt_of_le hBs GB.out.size
        clear x0 x1 c0 c1' c2' c3 c4 c5 hz5
        generalize wr.alloc (.cells #[.int .i64 yi, .int .i64 yp, .int .i64 yl, .string yt, .string ym, .slice Ak yk.length ck] 53) = WB at d5 GB f5 y1 y5 hBs2 ⊢
        go_region_held3 (fun W => W.cell? ⟨X, 1, none⟩ = some (.slice (some ⟨B, 0, none⟩) t.brs.length c2) ∧ W.cell? ⟨wr.heap.size, 5, none⟩ = some (.slice Ak yk.length ck)) (first | (refine heldQ2 WB _ y1 d5 ?_; (repeat (first | exact Grew.refl WB | exact GB1.out | refine Grew.drew ?_)); done) | exact heldQ3 w1 ⟨B, k * 6 + 5, none⟩ _ hXB hRB z1 zd) ((go_at_call 32; refine (KK.out _ (GW.out.trans (by repeat (first | exact GB.out | refine Grew.drew ?_)))).mono ?_; rintro e w1 ⟨v1, rfl, ho1, g1⟩; have GB1 := Lib.hid (show Grew WB w1 from Grew.trans (by repeat (first | exact Grew.refl WB | refine Grew.drew ?_)) g1); have HO1 := Lib.hid (World.ownsRow.mono (base' := wr.heap.size) ho1 (Grew.size (by repeat (first | exact GB.out | refine Grew.drew ?_)))); obtain ⟨A3, c3, rfl⟩ := own_slice ho1; have z1 := keep_cell GB1.out y1; have z5 := keep_cell GB1.out y5; have zd := keep_cell GB1.out d5; have g5 := (GB1.out.frozen (p := ⟨B, k * 6 + 5, none⟩) hBs2).trans f5; clear ho1 g1))
        go_wp2
        go_roundg (t.brs.length - (k + 1))
        case measure => omega
        case rel =>
          obtain ⟨ds2, hH2, -, hX2, hG2⟩ := HY.out _ _ (GB.out.trans GB1.out) HO1.out
          exact ⟨k + 1, ds2, by omega, by omega, by go_num, (show Aside _ from hH2), (show Aside _ from hX2), (show Aside _ from hG2)⟩
      · have hltz : ¬ (k : Int) < (t.brs.length : Int) := by omega
        obtain rfl : k = t.brs.length := by omega
        go_wp2
        go_ret
        exact ⟨_, rfl, ⟨_, HH.out.done GW.out⟩, GW.out.alloc _⟩
end Go.Proofs.YtafncfomiolmgaaGreatDoor

/- The editor's take, walked. The conditions: the units ascend; the lists are short. -/
namespace Go.Proofs.YtafncfomiolmgaaGreatDoor
open Go.RowKit

theorem edTake1 (n : Int) (B : Nat) (x : Int) (W : World) (h0 : W.cell? ⟨B, 0, none⟩ = some (.int .i64 n)) :
    Calls Tryz.prog 138 (#[.int .i64 x] ++ #[.pointer (some ⟨B, 0, none⟩)]) W fun e w' => e = .returned (.bool (x == n)) ∧ Grew W w' := by
  have hB := World.block_lt_of_cell? W _ h0
  go_enter Tryz.func138, Tryz.ntmps138
  go_wp2
  go_ret
  exact ⟨rfl, Grew.refl W⟩
theorem enters_edTake1 : ∀ args w, (callFunc 138 args).run Tryz.prog w = .ok (.enter 138 args) w := enters_of Tryz.func138 (by kernel_rfl) rfl
section
variable {w0 : World} {E : Nat} {bv : Value} {t : Tr} {w : World}
theorem takeDone {w1 w3 : World} {p n : Int} {ab ao : Nat} {kv v3 : Value} {L : List Int} {R : Tr} (h : KAt w0.heap.size E bv t p ⟨ab, ao, none⟩ kv w1) (hR : setK t p (L.filter fun x => !(x == n)) = R) (hG : Grew w0 w1) (own : w3.ownsRow w0.heap.size 3 1 v3 (L.filter fun x => !(x == n)).length ((L.filter fun x => !(x == n)).flatMap oneI))
    (hg : w1.grownBy w3 kv.ownBlock) (hat : v3.ownBlock = kv.ownBlock) : EdB w0.heap.size E bv R (w3.setCell ⟨ab, ao, none⟩ v3) ∧ Grew w0 (w3.setCell ⟨ab, ao, none⟩ v3) := by
  refine ⟨?_, ?_⟩
  · rw [← hR]
    exact h.back w3 v3 _ hg own (.inl hat)
  · exact (Below.grown hG hg hG.size (fun b e => (h.own.lt b e).1)).setCell (p := ⟨ab, ao, none⟩) h.lo v3
theorem edKidsAt {base : Nat} (h : EdB base E bv t w) (hasc : idsAsc t.brs) (hlen : t.brs.length ≤ 1000000) {p : Int} (hp : p = 0 ∨ ∃ b ∈ t.brs, b.id = p) :
    ∃ ab ao kv, KAt base E bv t p ⟨ab, ao, none⟩ kv w ∧ ∀ W, Grew w W → Calls Tryz.prog 89 #[.pointer (some ⟨E, 0, none⟩), .int .i64 p] W fun e w' => e = .returned (.pointer (some ⟨ab, ao, none⟩)) ∧ Grew W w' := by
  by_cases hz : p = 0
  · subst hz
    obtain ⟨rv, cs, hE⟩ := h
    refine ⟨E, 0, rv, hE.kat0, fun W hW => ?_⟩
    clear hE hW
    go_enter Tryz.func89, Tryz.ntmps89
    go_wp2
    go_ret
    exact ⟨rfl, Grew.refl W⟩
  · obtain ⟨b, hb, e⟩ := hp.resolve_left hz
    obtain ⟨i, hi, rfl⟩ := List.mem_iff_getElem.1 hb
    subst e
    obtain ⟨rv, cs, hE⟩ := h
    obtain ⟨B, cap, hbv, -, -, -⟩ := own_form hE.brs (by omega)
    refine ⟨B, i * 6 + 5, _, hE.katB hasc hi hz hbv, fun W hW => ?_⟩
    have hEW : EdB base E bv t W := ⟨rv, cs, hE.grew hW⟩
    have K := Lib.hid (edBranch hEW hasc hlen hi hbv)
    have hz' : (t.brs[i].id == 0) = false := by simpa using hz
    generalize t.brs[i].id = p at K hz' ⊢
    clear hE hz hb hp hEW hW
    go_enter Tryz.func89, Tryz.ntmps89
    go_wp2_with fail
    refine K.out.mono ?_
    rintro e w1 ⟨rfl, g1⟩
    dsimp only
    go_wp2
    go_ret
    exact ⟨rfl, g1⟩
set_option maxHeartbeats 4000000 in
theorem edTake (h : EdB w0.heap.size E bv t w) (hG : Grew w0 w) (hasc : idsAsc t.brs) (hlen : t.brs.length ≤ 1000000) {i : Nat} (hi : i < t.brs.length) (hp : t.brs[i].parent = 0 ∨ ∃ b ∈ t.brs, b.id = t.brs[i].parent) :
    Calls Tryz.prog 94 #[.pointer (some ⟨E, 0, none⟩), .int .i64 t.brs[i].id] w fun e w' => e = .returned (.tuple #[]) ∧ EdB w0.heap.size E bv (setK t t.brs[i].parent (withoutF t.brs[i].id (childs t t.brs[i].parent))) w' ∧ Grew w0 w' := by
  obtain ⟨rv, cs, hE⟩ := h
  obtain ⟨B, cap, hbv, -, -, -⟩ := own_form hE.brs (by omega)
  obtain ⟨-, c1, -⟩ := hE.at_ hi hbv
  have hEw : EdB w0.heap.size E bv t w := ⟨rv, cs, hE⟩
  have KB := Lib.hid (fun W (hW : Grew w W) => edBranch (hEw.grew hW) hasc hlen hi hbv)
  obtain ⟨ab, ao, kv, hkat, hK⟩ := edKidsAt hEw hasc hlen hp
  have KK := Lib.hid hK
  have HKAT := Lib.hid hkat
  have HG := Lib.hid hG
  have C1 := Lib.hid c1
  unfold withoutF
  generalize hR : setK t t.brs[i].parent ((childs t t.brs[i].parent).filter fun x => !(x == t.brs[i].id)) = R
  have HR := Lib.hid hR
  clear hR
  generalize t.brs[i].id = n at KB HR ⊢
  generalize t.brs[i].parent = p at KK C1 HKAT HR ⊢
  clear hE hEw hG hasc hlen hp c1 hbv hkat hK
  go_enter Tryz.func94, Tryz.ntmps94
  go_wp2_with fail
  refine (KB.out _ ((Grew.refl w).alloc _)).mono ?_
  rintro e w1 ⟨rfl, g1⟩
  have b0 := new_cell (cs := [.int .i64 n]) g1 0 _ rfl
  have HG1 := Lib.hid (((Grew.refl w).alloc _).trans g1)
  have c1 := keep_cell HG1.out C1.out
  clear g1
  dsimp only
  go_wp2_with fail
  refine (KK.out _ HG1.out).mono ?_
  rintro e w2 ⟨rfl, g2⟩
  have hk2 := HKAT.out.grew (HG1.out.trans g2)
  have b2 := keep_cell g2 b0
  have d1 := hk2.cell
  have HKAT2 := Lib.hid hk2
  have HG2 := Lib.hid (HG.out.trans (HG1.out.trans g2))
  have hbox : some w.heap.size ≠ kv.ownBlock := fun e => by
    have := (HKAT.out.own.lt _ e.symm).2
    omega
  have hdel := deleteFuncG (childs t p) (fun x => x == n) 138 #[.pointer (some ⟨w.heap.size, 0, none⟩)] enters_edTake1 w0.heap.size kv w2 HG2.out.size hk2.own (fun W x hW _ => edTake1 n w.heap.size x W (hW.cell b2 hbox))
  have HDEL := Lib.hid hdel
  obtain ⟨Ak, ck, rfl⟩ := own_slice hk2.own
  clear g2 hk2 hdel b0 c1 hbox
  generalize childs t p = L at HDEL HR d1 HKAT2
  dsimp only
  go_wp2_with fail
  refine HDEL.out.mono ?_
  rintro e w3 ⟨v3, rfl, own3, hat3, -, hgr3⟩
  obtain ⟨A3, d3, rfl⟩ := own_slice own3
  have HFIN := Lib.hid (takeDone (R := R) HKAT2.out HR.out HG2.out own3 hgr3 hat3)
  have c3 := hgr3.cell d1 (fun e => HKAT2.out.off e.symm)
  have f3 := (World.frozen?_of_block (a := ⟨ab, ao, none⟩) (hgr3.block ab HKAT2.out.lt (fun e => HKAT2.out.off e.symm))).trans HKAT2.out.frz
  clear own3 hgr3 hat3
  dsimp only
  go_wp2
  go_end0
  exact ⟨rfl, HFIN.out⟩
end
end Go.Proofs.YtafncfomiolmgaaGreatDoor

/- tree.known on any tree, orTop, kids, Kids, walked. The conditions: the library's own variables hold what they must; the lists are short. -/
namespace Go.Proofs.YtafncfomiolmgaaGreatDoor
open Go.RowKit

set_option maxHeartbeats 2000000 in
theorem tKnownNo (rs : List Int) (l : List Br) (rv bv kv : Value) (w : World) (hE : Env w) (hr : SlI w rv rs) (hv : SlBr w bv l) (hf : FewBr l) (hrl : rs.length ≤ 1000000) (hT : ¬ RightT ⟨rs, l⟩) :
    Calls Tryz.prog 117 #[.agg #[rv, bv], kv] w fun e w' => e = .returned (.int .i64 1) ∧ Grew w w' := by
  have KR := Lib.hid (fun W (hW : Grew w W) => tRight rs l rv bv W (hE.mono hW) (hr.mono hW) (hv.mono hW) hf hrl)
  have HT := Lib.hid hT
  clear hE hr hv hf hrl hT
  go_enter Tryz.func117, Tryz.ntmps117
  go_wp2_with fail
  refine (KR.out _ ((Grew.refl w).alloc _)).mono ?_
  rintro e w1 ⟨bb, rfl, hbb, g1⟩
  obtain rfl : bb = false := by
    cases bb
    · rfl
    · exact absurd (hbb.1 rfl) HT.out
  have HG1 := Lib.hid g1
  clear hbb g1
  dsimp only
  go_wp2
  go_ret
  exact ⟨rfl, ((Grew.refl w).alloc _).trans HG1.out⟩
/-- The error of a tree and a unit, or 0 for the top. -/
def topR (l : List Br) (id : Int) : Int := if id = 0 then 0 else knownF l [id]
set_option maxHeartbeats 2000000 in
theorem tOrTop (rs : List Int) (l : List Br) (id : Int) (rv bv : Value) (w : World) (hE : Env w) (hr : SlI w rv rs) (hv : SlBr w bv l) (hf : FewBr l) (hrl : rs.length ≤ 1000000) (n : Int) (hn : (¬ RightT ⟨rs, l⟩ → n = 1) ∧ (RightT ⟨rs, l⟩ → n = topR l id)) :
    Calls Tryz.prog 73 #[.agg #[rv, bv], .int .i64 id] w fun e w' => e = .returned (.int .i64 n) ∧ Grew w w' := by
  have hfr : ∀ W : World, SlI (W.alloc (.cells #[.int .i64 id] 3)) (.slice (some ⟨W.heap.size, 0, none⟩) 1 1) [id] := fun W => Rd.fresh W _ 1 1 [.int .i64 id] rfl (by decide)
  have hK : ∀ W kv ids, Grew w W → SlI W kv ids → (ids = [] ∧ id = 0 ∨ ids = [id] ∧ id ≠ 0) → Calls Tryz.prog 117 #[.agg #[rv, bv], kv] W fun e w' => e = .returned (.int .i64 n) ∧ Grew W w' := by
    intro W kv ids hW hk hi
    by_cases hT : RightT ⟨rs, l⟩
    · have h1 := tKnown rs l ids rv bv kv W (hE.mono hW) (hr.mono hW) (hv.mono hW) hk hf hrl hT
      have h2 : knownF l ids = n := by
        rw [hn.2 hT]
        unfold topR
        rcases hi with ⟨rfl, h⟩ | ⟨rfl, h⟩
        · rw [if_pos h]
          rfl
        · rw [if_neg h]
      rw [h2] at h1
      exact h1
    · have h1 := tKnownNo rs l rv bv kv W (hE.mono hW) (hr.mono hW) (hv.mono hW) hf hrl hT
      rw [hn.1 hT]
      exact h1
  have KK := Lib.hid hK
  have HFR := Lib.hid hfr
  clear hE hr hv hf hrl hK hfr hn
  by_cases h0 : id = 0
  · subst h0
    go_enter Tryz.func73, Tryz.ntmps73
    go_wp2_with fail
    refine (KK.out _ _ [] ((Grew.refl w).alloc _) (SlI.nil _) (.inl (by simp))).mono ?_
    rintro e w1 ⟨rfl, g1⟩
    dsimp only
    go_wp2
    go_ret
    exact ⟨rfl, ((Grew.refl w).alloc _).trans g1⟩
  · have h0' : (id == 0) = false := by simpa using h0
    have H0 := Lib.hid h0
    clear h0
    go_enter Tryz.func73, Tryz.ntmps73
    go_wp2_with fail
    refine (KK.out _ _ [id] (((Grew.refl w).alloc _).alloc _) (by have := HFR.out (w.alloc (.cells #[rv, bv] 35)); simpa using this) (.inr ⟨rfl, H0.out⟩)).mono ?_
    rintro e w1 ⟨rfl, g1⟩
    dsimp only
    go_wp2
    go_ret
    exact ⟨rfl, (((Grew.refl w).alloc _).alloc _).trans g1⟩
/-- The children of a unit of a right tree: the list itself, not a copy. -/
theorem tKids0 (rs : List Int) (l : List Br) (id : Int) (rv bv : Value) (w0 w : World) (hr : SlI w0 rv rs) (hv : SlBr w0 bv l) (hg : Grew w0 w) (hf : l.length ≤ 1000000) (hT : RightT ⟨rs, l⟩) (hid : id = 0 ∨ ∃ b, brFind l id = some b) :
    Calls Tryz.prog 74 #[.agg #[rv, bv], .int .i64 id] w fun e w' => ∃ v, e = .returned v ∧ SlI w0 v (childs ⟨rs, l⟩ id) ∧ Grew w w' := by
  unfold childs
  by_cases h0 : id = 0
  · subst h0
    rw [if_pos rfl]
    have HR := Lib.hid hr
    obtain ⟨B, d, rfl, -, -, -⟩ := hr.open_
    clear hr hv hg hid
    go_enter Tryz.func74, Tryz.ntmps74
    go_wp2
    go_ret
    exact ⟨_, rfl, HR.out, (Grew.refl w).alloc _⟩
  · obtain ⟨b, hb⟩ := hid.resolve_left h0
    rw [if_neg h0]
    obtain ⟨k, hk, _, e⟩ := brIdx_some hb
    have hidk : l[k].id = id := by
      rw [e]
      exact (find_in hb).2
    obtain ⟨h1, h2⟩ := at_some hT.2.1 id k hk hidk
    have kA := fun W (hW : Grew w W) => tAt l id rv bv W (hv.mono (hg.trans hW)) hf (cmpId_mono hT.2.1 id)
    rw [h1, h2] at kA
    have KA := Lib.hid kA
    obtain ⟨A, c, rfl, hlc, hc, hrr⟩ := hv.open_
    unfold maxLen at hc
    obtain ⟨bb, off, rfl, hbk, hcell⟩ := hrr (by omega)
    obtain ⟨kv, hkv, hcl⟩ := hcell k hk
    have HKV : RowKit.Hid (SlI w0 kv (match brFind l id with | none => [] | some b => b.kids)) := by
      rw [hb]
      rw [e] at hkv
      exact hkv
    show Calls Tryz.prog 74 #[.agg #[rv, .slice (some ⟨bb, off, none⟩) l.length c], .int .i64 id] w fun e w' => ∃ v, e = .returned v ∧ SlI w0 v (match brFind l id with | none => [] | some b => b.kids) ∧ Grew w w'
    generalize (match brFind l id with | none => [] | some b => b.kids) = K at HKV ⊢
    have hcl5 : ∀ W, Grew w0 W → W.cell? ⟨bb, off + k * 6 + 5, none⟩ = some kv := fun W hW => (hcl W hW).2.2.2.2.2
    have HC := Lib.hid hcl5
    have HG := Lib.hid hg
    have h0' : (id == 0) = false := by simpa using h0
    have hkz : (k : Int) < (l.length : Int) := by omega
    have h0z : (0 : Int) ≤ (k : Int) := by omega
    obtain ⟨Az, cz, rfl, -, -, -⟩ := hkv.open_
    clear hr hv hg hid hb e h1 h2 kA hrr hcell hcl hcl5 hkv hT h0 hidk
    go_enter Tryz.func74, Tryz.ntmps74
    go_wp2_with fail
    refine (KA.out _ ((Grew.refl w).alloc _)).mono ?_
    rintro e w1 ⟨rfl, g1⟩
    have b0 := new_cell g1 0 _ rfl
    have b1 := new_cell g1 1 _ rfl
    have HG1 := Lib.hid (((Grew.refl w).alloc _).trans g1)
    have c5 := HC.out w1 (HG.out.trans HG1.out)
    clear g1
    dsimp only
    go_wp2
    go_ret
    exact ⟨_, rfl, HKV.out, HG1.out⟩
open Classical in
/-- What Kids returns. -/
noncomputable def kidsR (t : Tr) (id : Int) : List Int × Int := if RightT t then (if topR t.brs id = 0 then (childs t id, 0) else ([], topR t.brs id)) else ([], 1)
theorem top_found {l : List Br} {id : Int} (h : topR l id = 0) : id = 0 ∨ ∃ b, brFind l id = some b := by
  unfold topR at h
  by_cases h0 : id = 0
  · exact .inl h0
  · rw [if_neg h0] at h
    unfold knownF at h
    cases hb : brFind l id with
    | none => simp [hb] at h
    | some b => exact .inr ⟨b, rfl⟩
def RetIs (r : List Int × Int) (w : World) (e : Ending) (w' : World) : Prop := ∃ v, e = .returned (.tuple #[v, .int .i64 r.2]) ∧ SlI w' v r.1 ∧ Grew w w'
set_option maxHeartbeats 2000000 in
theorem tKidsX (rs : List Int) (l : List Br) (id : Int) (rv bv : Value) (w : World) (hE : Env w) (hr : SlI w rv rs) (hv : SlBr w bv l) (hf : FewBr l) (hrl : rs.length ≤ 1000000) :
    Calls Tryz.prog 29 #[.agg #[rv, bv], .int .i64 id] w (RetIs (kidsR ⟨rs, l⟩ id) w) := by
  have hO := fun W (hW : Grew w W) n hn => tOrTop rs l id rv bv W (hE.mono hW) (hr.mono hW) (hv.mono hW) hf hrl n hn
  have hKI := fun W (hW : Grew w W) hT hid => tKids0 rs l id rv bv w W hr hv hW hf.1 hT hid
  have hlen : ∀ v, RightT ⟨rs, l⟩ → SlI w v (childs ⟨rs, l⟩ id) → (childs ⟨rs, l⟩ id).length * 8 ≤ 140737488355328 := fun v hT hs => by
    have hb : (childs ⟨rs, l⟩ id).length ≤ 1000000 := by
      unfold childs
      by_cases h0 : id = 0
      · rw [if_pos h0]; exact hrl
      · rw [if_neg h0]
        show (match brFind l id with | none => [] | some b => b.kids).length ≤ 1000000
        cases hb : brFind l id with
        | none => simp
        | some b =>
          obtain ⟨k, hk, e⟩ := List.mem_iff_getElem.1 (find_in hb).1
          have := hf.2 k hk
          rw [e] at this
          exact this
    omega
  by_cases hT : RightT ⟨rs, l⟩
  · have hn : (¬ RightT ⟨rs, l⟩ → topR l id = 1) ∧ (RightT ⟨rs, l⟩ → topR l id = topR l id) := ⟨fun h => absurd hT h, fun _ => rfl⟩
    have KO := Lib.hid (fun W hW => hO W hW _ hn)
    have KI := Lib.hid (fun W hW h => hKI W hW hT h)
    have HL := Lib.hid (fun v => hlen v hT)
    by_cases hz : topR l id = 0
    · have hres : kidsR ⟨rs, l⟩ id = (childs ⟨rs, l⟩ id, 0) := by
        unfold kidsR
        rw [if_pos hT, if_pos hz]
      have HF := Lib.hid (top_found hz)
      rw [hres]
      rw [hz] at KO
      generalize childs ⟨rs, l⟩ id = K at KI HL ⊢
      clear hE hr hv hf hrl hO hKI hlen hn hz hres hT
      go_enter Tryz.func29, Tryz.ntmps29
      go_wp2_with fail
      refine (KO.out _ ((Grew.refl w).alloc _)).mono ?_
      rintro e w1 ⟨rfl, g1⟩
      have b0 := new_cell g1 0 _ rfl
      have b1 := new_cell g1 1 _ rfl
      have HG1 := Lib.hid (((Grew.refl w).alloc _).trans g1)
      clear g1
      dsimp only
      go_wp2_with fail
      refine (KI.out _ HG1.out HF.out).mono ?_
      rintro e w2 ⟨v2, rfl, s2, g2⟩
      have HG2 := Lib.hid (HG1.out.trans g2)
      have HCL := Lib.hid (cloneI K v2 w2 (s2.mono HG2.out) (HL.out v2 s2))
      clear s2 g2 b0 b1
      dsimp only
      go_wp2_with fail
      refine HCL.out.mono ?_
      rintro e w3 ⟨v3, rfl, ho, g3⟩
      have HS := Lib.hid (show SlI w3 v3 K from Rd.of_own ho)
      clear ho
      dsimp only
      go_wp2
      go_ret2
      exact ⟨_, rfl, HS.out, HG2.out.trans g3⟩
    · have hres : kidsR ⟨rs, l⟩ id = ([], topR l id) := by
        unfold kidsR
        rw [if_pos hT, if_neg hz]
      rw [hres]
      generalize topR l id = n at hz KO
      have hz' : (n != 0) = true := by simpa using hz
      clear hE hr hv hf hrl hO hKI hlen hn hz hres hT KI HL
      go_enter Tryz.func29, Tryz.ntmps29
      go_wp2_with fail
      refine (KO.out _ ((Grew.refl w).alloc _)).mono ?_
      rintro e w1 ⟨rfl, g1⟩
      dsimp only
      go_wp2
      go_ret2
      exact ⟨_, rfl, SlI.nil _, ((Grew.refl w).alloc _).trans g1⟩
  · have hres : kidsR ⟨rs, l⟩ id = ([], 1) := by
      unfold kidsR
      rw [if_neg hT]
    have KO := Lib.hid (fun W hW => hO W hW 1 ⟨fun _ => rfl, fun h => absurd h hT⟩)
    rw [hres]
    clear hE hr hv hf hrl hO hKI hlen hres hT
    go_enter Tryz.func29, Tryz.ntmps29
    go_wp2_with fail
    refine (KO.out _ ((Grew.refl w).alloc _)).mono ?_
    rintro e w1 ⟨rfl, g1⟩
    dsimp only
    go_wp2
    go_ret2
    exact ⟨_, rfl, SlI.nil _, ((Grew.refl w).alloc _).trans g1⟩
end Go.Proofs.YtafncfomiolmgaaGreatDoor

/- The reference's Marked and Children of a tree, walked; the program's Marked. No condition but the sizes that a slice can have. -/
namespace Go.Proofs.YtafncfomiolmgaaGreatDoor
open Go.RowKit

/-- The first unit with a mark. -/
def markedF (l : List Br) (m : ByteArray) : Option Br := if m.toList.isEmpty then none else l.find? fun b => b.mark.toList == m.toList
def markV (o : Option Br) : Value := .tuple #[.int .i64 (match o with | none => 0 | some b => b.id), .bool o.isSome]
end Go.Proofs.YtafncfomiolmgaaGreatDoor

/- tree.Marked, walked. No condition but the sizes that a slice can have. -/
namespace Go.Proofs.YtafncfomiolmgaaGreatDoor
open Go.RowKit

def markP (m : ByteArray) (x : ByteArray) : Bool := !m.toList.isEmpty && (x.toList == m.toList)
def markIdx (l : List Br) (m : ByteArray) : Int := idxP (fun b => markP m b.mark) l
theorem markIdx_none {l : List Br} {m : ByteArray} (h : markedF l m = none) : markIdx l m = -1 := by
  refine idxP_miss _ l (fun i hi => ?_)
  unfold markedF at h
  unfold markP
  by_cases hm : m.toList.isEmpty = true
  · rw [hm]
    rfl
  · rw [if_neg hm] at h
    have := List.find?_eq_none.1 h l[i] (List.getElem_mem hi)
    simp only [Bool.not_eq_true] at this
    rw [this, Bool.and_false]
theorem markIdx_some {l : List Br} {m : ByteArray} {b : Br} (h : markedF l m = some b) : ∃ k, ∃ hk : k < l.length, markIdx l m = (k : Int) ∧ l[k] = b := by
  unfold markedF at h
  by_cases hm : m.toList.isEmpty = true
  · rw [if_pos hm] at h
    cases h
  · rw [if_neg hm] at h
    have hmf : m.toList.isEmpty = false := by simpa using hm
    obtain ⟨hb, k, hk, e, hbef⟩ := List.find?_eq_some_iff_getElem.1 h
    refine ⟨k, hk, idxP_hit _ l k hk (by unfold markP; rw [hmf, e]; simpa using hb) (fun i hi hik => ?_), e⟩
    have := hbef i hik
    unfold markP
    rw [hmf]
    simpa using this
set_option maxHeartbeats 2000000 in
theorem tMarked1 (B : Nat) (m : ByteArray) (x : BrC) (W : World) (h0 : W.cell? ⟨B, 0, none⟩ = some (.string m)) :
    Calls Tryz.prog 171 (#[x.agg] ++ #[.pointer (some ⟨B, 0, none⟩)]) W fun e w' => e = .returned (.bool (markP m x.mark)) ∧ Grew W w' := by
  have hB := World.block_lt_of_cell? W _ h0
  unfold BrC.agg markP
  cases hm : m.toList.isEmpty with
  | true =>
    have hee : m.toList = [] := List.isEmpty_iff.1 hm
    have hem : (!m.toList.isEmpty) = false := by simp [hm]
    go_enter Tryz.func171, Tryz.ntmps171
    go_wp2
    go_ret
    exact ⟨by simp, by first | exact (Grew.refl W).alloc _ | exact ((Grew.refl W).alloc _).drew⟩
  | false =>
    have hem : (!m.toList.isEmpty) = true := by simp [hm]
    go_enter Tryz.func171, Tryz.ntmps171
    go_wp2
    go_ret
    exact ⟨by simp, by first | exact (Grew.refl W).alloc _ | exact ((Grew.refl W).alloc _).drew⟩
theorem enters_tMarked1 : ∀ args w, (callFunc 171 args).run Tryz.prog w = .ok (.enter 171 args) w := enters_of Tryz.func171 (by kernel_rfl) rfl
set_option maxHeartbeats 2000000 in
theorem tMarked (l : List Br) (m : ByteArray) (rv bv : Value) (w : World) (hv : SlBr w bv l) : Calls Tryz.prog 134 #[.agg #[rv, bv], .string m] w fun e w' => e = .returned (markV (markedF l m)) ∧ Grew w w' := by
  obtain ⟨A, c, rfl, hlc, hc, hr⟩ := hv.open_
  unfold maxLen at hc
  have HR := Lib.hid hr
  obtain ⟨cs, h1, h2, h3⟩ := hv
  have he : markIdx l m = idxP (fun c : BrC => markP m c.mark) cs := (idxP_rel cs l h2 (fun i h h' => by
    have := congrArg BrC.mark (h3 i h h').1
    simp only [Br.c] at this
    rw [this])).symm
  have hix := indexFuncB cs (fun c => markP m c.mark) _ _ enters_tMarked1 (.slice A l.length c) ((w.alloc (.cells #[rv, .slice A l.length c] 35)).alloc (.cells #[.string m] 9)) (h1.mono (((Grew.refl w).alloc _).alloc _)) (fun W x hW _ => tMarked1 (w.heap.size + 1) m x W (by
    have := new_cell (cs := [.string m]) hW 0 _ rfl
    simpa using this))
  rw [← he] at hix
  have HG0 := Lib.hid (((Grew.refl w).alloc (.cells #[rv, .slice A l.length c] 35)).alloc (.cells #[.string m] 9))
  clear h1 h3 he hr
  cases hO : markedF l m with
  | none =>
    rw [markIdx_none hO] at hix
    have HX := Lib.hid hix
    unfold markV
    dsimp only [Option.isSome_none]
    clear hix hO
    go_enter Tryz.func134, Tryz.ntmps134
    go_wp2_with fail
    refine HX.out.mono ?_
    rintro e w1 ⟨rfl, g1⟩
    dsimp only
    go_wp2
    go_ret2
    exact ⟨rfl, HG0.out.trans g1⟩
  | some b =>
    obtain ⟨k, hk, ek, eb⟩ := markIdx_some hO
    rw [ek] at hix
    have HX := Lib.hid hix
    unfold markV
    dsimp only [Option.isSome_some]
    obtain ⟨bb, off, rfl, hbk, hcell⟩ := HR.out (by omega)
    obtain ⟨kv, -, hcl⟩ := hcell k hk
    have HC := Lib.hid (fun W (hW : Grew w W) => (hcl W hW).1)
    rw [eb] at HC
    have hkz : (k : Int) < (l.length : Int) := by omega
    have h0z : (0 : Int) ≤ (k : Int) := by omega
    clear hix hO ek eb hcell hcl
    go_enter Tryz.func134, Tryz.ntmps134
    go_wp2_with fail
    refine HX.out.mono ?_
    rintro e w1 ⟨rfl, g1⟩
    have HG1 := Lib.hid (HG0.out.trans g1)
    have c0 := HC.out w1 HG1.out
    have t0 := keep_cell g1 (keep_cell ((Grew.refl _).alloc (.cells #[.string m] 9)) (new_cell (Grew.refl (w.alloc (.cells [rv, .slice (some ⟨bb, off, none⟩) l.length c].toArray 35))) 1 _ rfl))
    clear g1
    dsimp only
    go_wp2
    go_ret2
    exact ⟨rfl, HG1.out⟩
end Go.Proofs.YtafncfomiolmgaaGreatDoor

/- A unit that is removed, moved or named anew: the tree stays right but for its depth. No condition. -/
namespace Go.Proofs.YtafncfomiolmgaaGreatDoor
open Go.RowKit

theorem mem_without (n x : Int) (l : List Int) : x ∈ withoutF n l ↔ x ∈ l ∧ x ≠ n := by
  unfold withoutF
  simp
theorem nodup_without (n : Int) {l : List Int} (h : l.Nodup) : (withoutF n l).Nodup := List.Pairwise.filter _ h
/-- The list of children without one: of every parent but its own it is the list itself. -/
theorem kids_without {t : Tr} (h : SoundM t) {u : Br} (hu : u ∈ t.brs) (q : Int) (hq : q = 0 ∨ ∃ b ∈ t.brs, b.id = q) : ∀ x, x ∈ childs (setK t u.parent (withoutF u.id (childs t u.parent))) q ↔ x ∈ childs t q ∧ x ≠ u.id := by
  obtain ⟨hC, hK⟩ := (sound_parts t).1 h
  have hp : u.parent = 0 ∨ ∃ b ∈ t.brs, b.id = u.parent := by
    rcases (placed_mem hC.asc u).1 (hC.placed u hu) with ⟨h1, _⟩ | ⟨_, p, hpm, h2, _⟩
    · exact .inl h1
    · exact .inr ⟨p, hpm, h2⟩
  intro x
  rw [setK_childs _ _ q hp]
  by_cases hqp : q = u.parent
  · rw [if_pos hqp, mem_without, hqp]
  · rw [if_neg hqp]
    refine ⟨fun hx => ⟨hx, fun e => ?_⟩, fun hx => hx.1⟩
    obtain ⟨b, hb, h1, h2⟩ := ((hK q hq).2 x).1 hx
    have := asc_same hC.asc hb hu (by rw [h2]; exact e)
    subst this
    exact hqp h1.symm
theorem nodup_kids {t : Tr} (h : SoundM t) {u : Br} (hu : u ∈ t.brs) (q : Int) (hq : q = 0 ∨ ∃ b ∈ t.brs, b.id = q) : (childs (setK t u.parent (withoutF u.id (childs t u.parent))) q).Nodup := by
  obtain ⟨hC, hK⟩ := (sound_parts t).1 h
  have hp : u.parent = 0 ∨ ∃ b ∈ t.brs, b.id = u.parent := by
    rcases (placed_mem hC.asc u).1 (hC.placed u hu) with ⟨h1, _⟩ | ⟨_, p, hpm, h2, _⟩
    · exact .inl h1
    · exact .inr ⟨p, hpm, h2⟩
  rw [setK_childs _ _ q hp]
  by_cases hqp : q = u.parent
  · rw [if_pos hqp]
    exact nodup_without _ (hK _ hp).1
  · rw [if_neg hqp]
    exact (hK q hq).1
theorem remove_sound {t : Tr} {o : Opn} {u : Br} (h : SoundM t) (hu : u ∈ t.brs) (hid : u.id = o.unit) (hk : u.kids = []) : SoundM (removeT t o u) := by
  obtain ⟨hC, hK⟩ := (sound_parts t).1 h
  have hu0 : u.id ≠ 0 := unit_pos (hC.units u hu)
  have hw := kids_without h hu
  have hnd := nodup_kids h hu
  have hT := setK_core u.parent (withoutF u.id (childs t u.parent)) hC
  have hids := setK_ids t u.parent (withoutF u.id (childs t u.parent))
  have hkd := setK_kids t u.parent (withoutF u.id (childs t u.parent))
  have hno : ∀ x, ¬ ∃ c ∈ (setK t u.parent (withoutF u.id (childs t u.parent))).brs, c.parent = u.id ∧ c.id = x := by
    have hku := hK u.id (.inr ⟨u, hu, rfl⟩)
    rw [childs_of hC.asc hu hu0, hk] at hku
    have h2 := (hkd [] u.id).2 hku
    intro x hx
    have := (h2.2 x).2 hx
    cases this
  unfold removeT
  rw [← hid]
  generalize setK t u.parent (withoutF u.id (childs t u.parent)) = t1 at hw hnd hT hids hkd hno ⊢
  have hfil : ∀ c, c ∈ t1.brs.filter (fun b => !(b.id == u.id)) ↔ c ∈ t1.brs ∧ c.id ≠ u.id := fun c => by simp
  have hasc : idsAsc (t1.brs.filter fun b => !(b.id == u.id)) := List.Pairwise.filter _ hT.asc
  have hpar : ∀ c ∈ t1.brs, c.parent ≠ u.id := fun c hc e => hno c.id ⟨c, hc, e, rfl⟩
  rw [sound_parts]
  refine ⟨⟨Nat.le_trans (List.length_filter_le _ _) hT.len, hasc, fun c hc => hT.units c ((hfil c).1 hc).1, fun c hc d hd => hT.marks c ((hfil c).1 hc).1 d ((hfil d).1 hd).1, fun c hc => ?_, ?_⟩, fun q hq => ?_⟩
  · have hc1 := (hfil c).1 hc
    rw [placed_mem hasc]
    rcases (placed_mem hT.asc c).1 (hT.placed c hc1.1) with h1 | ⟨h1, p, hp, h2, h3⟩
    · exact .inl h1
    · exact .inr ⟨h1, p, (hfil p).2 ⟨hp, by rw [h2]; exact hpar c hc1.1⟩, h2, h3⟩
  · obtain ⟨r, hr⟩ := hT.rank
    exact ⟨r, fun c hc => hr c ((hfil c).1 hc).1⟩
  · have hqu : q ≠ u.id := by
      rcases hq with h1 | ⟨c, hc, e⟩
      · rw [h1]; exact fun e => hu0 e.symm
      · rw [← e]; exact ((hfil c).1 hc).2
    have hq1 : q = 0 ∨ ∃ b ∈ t.brs, b.id = q := by
      rcases hq with h1 | ⟨c, hc, e⟩
      · exact .inl h1
      · exact .inr ((hids q).1 ⟨c, ((hfil c).1 hc).1, e⟩)
    have hch : childs ⟨t1.roots, t1.brs.filter fun b => !(b.id == u.id)⟩ q = childs t1 q := by
      unfold childs
      split
      · rfl
      · show (match brFind (t1.brs.filter fun b => !(b.id == u.id)) q with
          | none => []
          | some b => b.kids) = _
        cases hf : brFind t1.brs q with
        | none => rw [(find_none q).2 (fun c hc => (find_none q).1 hf c ((hfil c).1 hc).1)]
        | some b =>
          have hb := find_in hf
          rw [(find_iff hasc q b).2 ⟨(hfil b).2 ⟨hb.1, by rw [hb.2]; exact hqu⟩, hb.2⟩]
    rw [hch]
    refine ⟨hnd q hq1, fun x => ?_⟩
    rw [hw q hq1, ((hkd _ q).2 (hK q hq1)).2 x]
    constructor
    · rintro ⟨⟨c, hc, h1, h2⟩, hx⟩
      exact ⟨c, (hfil c).2 ⟨hc, by rw [h2]; exact hx⟩, h1, h2⟩
    · rintro ⟨c, hc, h1, h2⟩
      have hc1 := (hfil c).1 hc
      exact ⟨⟨c, hc1.1, h1, h2⟩, by rw [← h2]; exact hc1.2⟩
/-- Other names of a unit. -/
theorem label_sound {t : Tr} (h : SoundM t) (n : Int) (f : Br → Br) (hf : ∀ b, (f b).id = b.id ∧ (f b).parent = b.parent ∧ (f b).level = b.level ∧ (f b).kids = b.kids) (hu : ∀ b ∈ t.brs, b.id = n → UnitOk (f b))
    (hm : ∀ b ∈ t.brs, b.id = n → ∀ c ∈ t.brs, c.id ≠ n → (f b).mark.toList.isEmpty = false → (f b).mark.toList ≠ c.mark.toList) : SoundM (setU t n f) := by
  obtain ⟨hC, hK⟩ := (sound_parts t).1 h
  have e1 : ∀ b, (if b.id = n then f b else b).id = b.id := fun b => by split <;> simp [hf]
  have e2 : ∀ b, (if b.id = n then f b else b).parent = b.parent := fun b => by split <;> simp [hf]
  have e3 : ∀ b, (if b.id = n then f b else b).level = b.level := fun b => by split <;> simp [hf]
  have e4 : ∀ b, (if b.id = n then f b else b).kids = b.kids := fun b => by split <;> simp [hf]
  have hasc : idsAsc (t.brs.map fun b => if b.id = n then f b else b) := List.Pairwise.map _ (fun a b hab => by rw [e1, e1]; exact hab) hC.asc
  rw [sound_parts]
  unfold setU
  refine ⟨⟨by rw [List.length_map]; exact hC.len, hasc, fun c hc => ?_, fun c hc d hd hne he => ?_, fun c hc => ?_, ?_⟩, fun q hq => ?_⟩
  · obtain ⟨b, hb, rfl⟩ := List.mem_map.1 hc
    by_cases hbn : b.id = n
    · rw [if_pos hbn]; exact hu b hb hbn
    · rw [if_neg hbn]; exact hC.units b hb
  · obtain ⟨b, hb, rfl⟩ := List.mem_map.1 hc
    obtain ⟨b2, hb2, rfl⟩ := List.mem_map.1 hd
    rw [e1, e1]
    by_cases hbn : b.id = n <;> by_cases hbn2 : b2.id = n
    · rw [hbn, hbn2]
    · rw [if_pos hbn] at hne he
      rw [if_neg hbn2] at he
      exact absurd he (hm b hb hbn b2 hb2 hbn2 hne)
    · rw [if_neg hbn] at hne he
      rw [if_pos hbn2] at he
      exact absurd he.symm (hm b2 hb2 hbn2 b hb hbn (by rw [← he]; exact hne))
    · rw [if_neg hbn] at hne he
      rw [if_neg hbn2] at he
      exact hC.marks b hb b2 hb2 hne he
  · obtain ⟨b, hb, rfl⟩ := List.mem_map.1 hc
    rw [placed_mem hasc, e2, e3]
    rcases (placed_mem hC.asc b).1 (hC.placed b hb) with h1 | ⟨h1, p, hp, h2, h3⟩
    · exact .inl h1
    · exact .inr ⟨h1, _, List.mem_map.2 ⟨p, hp, rfl⟩, by rw [e1]; exact h2, by rw [e3]; exact h3⟩
  · obtain ⟨r, hr⟩ := hC.rank
    refine ⟨r, fun c hc => ?_⟩
    obtain ⟨b, hb, rfl⟩ := List.mem_map.1 hc
    rw [e1, e2]
    exact hr b hb
  · have hq1 : q = 0 ∨ ∃ b ∈ t.brs, b.id = q := by
      rcases hq with h1 | ⟨c, hc, e⟩
      · exact .inl h1
      · obtain ⟨b, hb, rfl⟩ := List.mem_map.1 hc
        exact .inr ⟨b, hb, by rw [← e, e1]⟩
    have hch : childs ⟨t.roots, t.brs.map fun b => if b.id = n then f b else b⟩ q = childs t q := by
      unfold childs
      split
      · rfl
      · show (match brFind (t.brs.map fun b => if b.id = n then f b else b) q with
          | none => []
          | some b => b.kids) = _
        rw [find_map _ e1]
        cases brFind t.brs q with
        | none => rfl
        | some b => exact e4 b
    rw [hch]
    refine ⟨(hK q hq1).1, fun x => ?_⟩
    rw [(hK q hq1).2 x]
    constructor
    · rintro ⟨c, hc, h1, h2⟩
      exact ⟨_, List.mem_map.2 ⟨c, hc, rfl⟩, by rw [e2]; exact h1, by rw [e1]; exact h2⟩
    · rintro ⟨c, hc, h1, h2⟩
      obtain ⟨b, hb, rfl⟩ := List.mem_map.1 hc
      exact ⟨b, hb, by rw [← h1, e2], by rw [← h2, e1]⟩
end Go.Proofs.YtafncfomiolmgaaGreatDoor
