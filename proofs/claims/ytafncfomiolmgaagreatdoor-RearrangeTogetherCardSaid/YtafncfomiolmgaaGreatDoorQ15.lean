/- Lemmas on what the functions of the program and of the library compute: Es7, Es7b, PlainCm, CompI, SetI, T11, Bw1, Bw2, Bw3. The conditions stand at each. -/
import Derived.Test.YtafncfomiolmgaaGreatDoorQ14
import Derived.Deep.RegionWith
import Derived.Test.YtafncfomiolmgaaGreatDoorQ4
import Derived.Test.YtafncfomiolmgaaGreatDoorQ3
import Derived.Maps.RangeWalk
import Derived.Maps.OwnSet
import Derived.RangeFuncLeaves
import Derived.RangeFuncBox
import Derived.OwnWalkIn
import Derived.TacticsInMore
import Derived.LoopNIn
import Derived.LoopIn
import Derived.Maps.AppendAt
import Derived.Test.YtafncfomiolmgaaGreatDoorQ11
import Derived.Test.YtafncfomiolmgaaGreatDoorQ7
import Derived.Laws.EntriesVeiled
/- The editor's create, walked. The conditions: the tree is right; the lists are short; the library's own variables hold what they must. -/
namespace Go.Proofs.YtafncfomiolmgaaGreatDoor
open Go.RowKit

open Classical in
/-- What create returns. -/
noncomputable def resC (t : Tr) (o : Opn) : Int := if faultC t o ≠ 0 then faultC t o else if RightT (createT t o) then 0 else 15
theorem resC_1 {t : Tr} {o : Opn} (h : (brFind t.brs o.unit).isSome = true) : resC t o = 6 := by
  have : faultC t o = 6 := by unfold faultC; rw [if_pos h]
  unfold resC
  rw [this, if_pos (by decide)]
theorem resC_2 {t : Tr} {o : Opn} (h : (brFind t.brs o.unit).isSome = false) (h2 : o.parent ≠ 0 ∧ (brFind t.brs o.parent).isSome = false) : resC t o = 7 := by
  have : faultC t o = 7 := by unfold faultC; rw [if_neg (by simp [h]), if_pos h2]
  unfold resC
  rw [this, if_pos (by decide)]
theorem resC_3 {t : Tr} {o : Opn} (h : (brFind t.brs o.unit).isSome = false) (h2 : ¬ (o.parent ≠ 0 ∧ (brFind t.brs o.parent).isSome = false)) (h3 : standsB t o.parent o.level = false) : resC t o = 18 := by
  have : faultC t o = 18 := by unfold faultC; rw [if_neg (by simp [h]), if_neg h2, if_pos h3]
  unfold resC
  rw [this, if_pos (by decide)]
theorem resC_4 {t : Tr} {o : Opn} (h : (brFind t.brs o.unit).isSome = false) (h2 : ¬ (o.parent ≠ 0 ∧ (brFind t.brs o.parent).isSome = false)) (h3 : standsB t o.parent o.level = true) (h4 : o.before ≠ 0 ∧ o.before ∉ childs t o.parent) : resC t o = 7 := by
  have : faultC t o = 7 := by unfold faultC; rw [if_neg (by simp [h]), if_neg h2, if_neg (by simp [h3]), if_pos h4]
  unfold resC
  rw [this, if_pos (by decide)]
theorem resC_5 {t : Tr} {o : Opn} (h : (brFind t.brs o.unit).isSome = false) (h2 : ¬ (o.parent ≠ 0 ∧ (brFind t.brs o.parent).isSome = false)) (h3 : standsB t o.parent o.level = true) (h4 : ¬ (o.before ≠ 0 ∧ o.before ∉ childs t o.parent)) (h5 : usedB t o.mark 0 = true) : resC t o = 19 := by
  have : faultC t o = 19 := by unfold faultC; rw [if_neg (by simp [h]), if_neg h2, if_neg (by simp [h3]), if_neg h4, if_pos h5]
  unfold resC
  rw [this, if_pos (by decide)]
theorem resC_6 {t : Tr} {o : Opn} (h : (brFind t.brs o.unit).isSome = false) (h2 : ¬ (o.parent ≠ 0 ∧ (brFind t.brs o.parent).isSome = false)) (h3 : standsB t o.parent o.level = true) (h4 : ¬ (o.before ≠ 0 ∧ o.before ∉ childs t o.parent)) (h5 : usedB t o.mark 0 = false) (h6 : 256 ≤ t.brs.length) : resC t o = 8 := by
  have : faultC t o = 8 := by unfold faultC; rw [if_neg (by simp [h]), if_neg h2, if_neg (by simp [h3]), if_neg h4, if_neg (by simp [h5]), if_pos h6]
  unfold resC
  rw [this, if_pos (by decide)]
open Classical in
theorem resC_7 {t : Tr} {o : Opn} (h : (brFind t.brs o.unit).isSome = false) (h2 : ¬ (o.parent ≠ 0 ∧ (brFind t.brs o.parent).isSome = false)) (h3 : standsB t o.parent o.level = true) (h4 : ¬ (o.before ≠ 0 ∧ o.before ∉ childs t o.parent)) (h5 : usedB t o.mark 0 = false) (h6 : ¬ 256 ≤ t.brs.length) : faultC t o = 0 ∧ resC t o = if RightT (createT t o) then 0 else 15 := by
  have : faultC t o = 0 := by unfold faultC; rw [if_neg (by simp [h]), if_neg h2, if_neg (by simp [h3]), if_neg h4, if_neg (by simp [h5]), if_neg h6]
  refine ⟨this, ?_⟩
  unfold resC
  rw [this, if_neg (fun h => h rfl)]
section
variable {w0 : World} {E : Nat} {bv : Value} {t : Tr} {w : World}
/-- Branch of a unit that may be there or not: nil or not. -/
theorem edBranchR {base : Nat} (h : EdB base E bv t w) (hT : TOk t) (id : Int) : ∃ A : Option Addr, A.isSome = (brFind t.brs id).isSome ∧ ∀ W, Grew w W → Calls Tryz.prog 86 #[.pointer (some ⟨E, 0, none⟩), .int .i64 id] W fun e w' => e = .returned (.pointer A) ∧ Grew W w' := by
  cases hb : brFind t.brs id with
  | none => exact ⟨none, rfl, fun W hW => edBranchNo (h.grew hW) hT.asc hT.len hb⟩
  | some b =>
    obtain ⟨i, hi, -, ei⟩ := find_at hb
    obtain ⟨B, cap, hbv⟩ := h.at_ hi
    refine ⟨some ⟨B, i * 6, none⟩, rfl, fun W hW => ?_⟩
    have := edBranch (h.grew hW) hT.asc hT.len hi hbv
    rw [ei] at this
    exact this
/-- What stands behind the block of a new unit: it is inserted. -/
theorem insertDone {w1 w2 : World} {t1 : Tr} {rv v' : Value} {cs : List BrC} {k : Nat} {b : Br} (h : Ed w0.heap.size E rv bv cs t w1) (hk : k ≤ cs.length) (hb : b.kids = []) (hR : ⟨t.roots, t.brs.take k ++ [b] ++ t.brs.drop k⟩ = t1) (hG : Grew w0 w1) (hg : w1.grownBy w2 bv.ownBlock)
    (hv : w2.ownsRow w0.heap.size 53 6 v' (cs.length + 1) ((cs.take k ++ [b.c (.slice none 0 0)] ++ cs.drop k).flatMap BrC.cells)) :
    (∃ bv', EdB w0.heap.size E bv' t1 (w2.setCell ⟨E, 1, none⟩ v')) ∧ Grew w0 (w2.setCell ⟨E, 1, none⟩ v') ∧ w2.frozen? ⟨E, 1, none⟩ = false ∧ w2.cell? ⟨E, 1, none⟩ = some bv := by
  have hbx : w2.heap[E]? = some (.cells #[rv, bv] 73 (0, 0)) := heap_kept h.box hg (own_ne h.brs h.box ne_BE)
  refine ⟨⟨v', rv, cs.take k ++ [b.c (.slice none 0 0)] ++ cs.drop k, ?_⟩, (Below.grown hG hg hG.size (fun b e => (h.brs.lt b e).1)).setCell (p := ⟨E, 1, none⟩) h.le v', by simp [World.frozen?, hbx], by simp [World.cell?, hbx]⟩
  rw [← hR]
  have hlen := h.len
  have hl : (cs.take k ++ [b.c (.slice none 0 0)] ++ cs.drop k).length = (t.brs.take k ++ [b] ++ t.brs.drop k).length := by simp [hlen]
  have hl2 : (t.brs.take k ++ [b] ++ t.brs.drop k).length = cs.length + 1 := by simp only [List.length_append, List.length_take, List.length_drop, List.length_cons, List.length_nil]; omega
  have key : ∀ m (hm : m < cs.length) (hm' : m < t.brs.length), cs[m] = t.brs[m].c cs[m].kv ∧ OwnI w0.heap.size w2 cs[m].kv t.brs[m].kids := fun m hm hm' =>
    ⟨(h.each m hm hm').1, own_kept (h.each m hm hm').2 hg (fun g hr hk => own_off (h.each m hm hm').2 h.brs ne_IB g hk hr)⟩
  refine h.setBrs hg (by rw [hl2]; exact hv) hl (fun j hj hj' => ?_) ?_
  · rw [hl, hl2] at hj
    rcases Nat.lt_trichotomy j k with hjk | hjk | hjk
    · have e1 : (cs.take k ++ [b.c (.slice none 0 0)] ++ cs.drop k)[j]? = cs[j]? := by
        rw [List.append_assoc, List.getElem?_append_left (by rw [List.length_take]; omega), List.getElem?_take, if_pos hjk]
      have e2 : (t.brs.take k ++ [b] ++ t.brs.drop k)[j]? = t.brs[j]? := by
        rw [List.append_assoc, List.getElem?_append_left (by rw [List.length_take]; omega), List.getElem?_take, if_pos hjk]
      rw [List.getElem?_eq_getElem (by omega), List.getElem?_eq_getElem (by omega)] at e1 e2
      rw [Option.some.inj e1, Option.some.inj e2]
      exact key j (by omega) (by omega)
    · subst hjk
      have e1 : (cs.take j ++ [b.c (.slice none 0 0)] ++ cs.drop j)[j]? = some (b.c (.slice none 0 0)) := by
        rw [List.append_assoc, List.getElem?_append_right (by rw [List.length_take]; omega), List.length_take, Nat.min_eq_left hk, Nat.sub_self]
        rfl
      have e2 : (t.brs.take j ++ [b] ++ t.brs.drop j)[j]? = some b := by
        rw [List.append_assoc, List.getElem?_append_right (by rw [List.length_take]; omega), List.length_take, Nat.min_eq_left (by omega), Nat.sub_self]
        rfl
      rw [List.getElem?_eq_getElem (by omega)] at e1 e2
      rw [Option.some.inj e1, Option.some.inj e2]
      refine ⟨rfl, ?_⟩
      show OwnI w0.heap.size w2 (.slice none 0 0) b.kids
      rw [hb]
      exact World.ownsRow_nil _ _ _ _
    · have e1 : (cs.take k ++ [b.c (.slice none 0 0)] ++ cs.drop k)[j]? = cs[j - 1]? := by
        rw [List.getElem?_append_right (by simp; omega), List.getElem?_drop]
        congr 1
        simp only [List.length_append, List.length_take, List.length_cons, List.length_nil]
        omega
      have e2 : (t.brs.take k ++ [b] ++ t.brs.drop k)[j]? = t.brs[j - 1]? := by
        rw [List.getElem?_append_right (by simp; omega), List.getElem?_drop]
        congr 1
        simp only [List.length_append, List.length_take, List.length_cons, List.length_nil]
        omega
      rw [List.getElem?_eq_getElem (by omega), List.getElem?_eq_getElem (by omega)] at e1 e2
      rw [Option.some.inj e1, Option.some.inj e2]
      exact key (j - 1) (by omega) (by omega)
  · obtain ⟨h1, h2⟩ := List.pairwise_cons.1 h.apart
    have hmap : (cs.take k ++ [b.c (.slice none 0 0)] ++ cs.drop k).map BrC.kv = (cs.map BrC.kv).take k ++ [.slice none 0 0] ++ (cs.map BrC.kv).drop k := by
      simp [List.map_take, List.map_drop, Br.c]
    rw [hmap]
    have hsplit : (cs.map BrC.kv) = (cs.map BrC.kv).take k ++ (cs.map BrC.kv).drop k := (List.take_append_drop _ _).symm
    have hnone : ∀ g, Value.ownBlock (.slice none 0 0) ≠ some g := fun g e => by simp [Value.ownBlock] at e
    refine List.pairwise_cons.2 ⟨fun v hv g hg' => ?_, ?_⟩
    · simp only [List.mem_append, List.mem_singleton] at hv
      rcases hv with (hv | hv) | hv
      · exact h1 v (List.mem_of_mem_take hv) g hg'
      · rw [hv]; exact hnone g
      · exact h1 v (List.mem_of_mem_drop hv) g hg'
    · rw [hsplit] at h2
      obtain ⟨p1, p2, p3⟩ := List.pairwise_append.1 h2
      refine List.pairwise_append.2 ⟨List.pairwise_append.2 ⟨p1, List.pairwise_singleton _ _, fun a _ c hc g _ => ?_⟩, p2, fun a ha c hc g hga => ?_⟩
      · rw [List.mem_singleton.1 hc]; exact hnone g
      · rcases List.mem_append.1 ha with ha | ha
        · exact p3 a ha c hc g hga
        · rw [List.mem_singleton.1 ha] at hga
          exact absurd hga (hnone g)
end
end Go.Proofs.YtafncfomiolmgaaGreatDoor

/- The steps of the editor's create: the new branch is inserted; its parent gets a child; the depth is looked at. The conditions: the tree is right but for its depth; the library's own variables hold what they must. -/
namespace Go.Proofs.YtafncfomiolmgaaGreatDoor
open Go.RowKit

section
variable {w0 : World} {E : Nat} {bv : Value} {t : Tr} {o : Opn}
theorem createIns {W0 : World} (hS : SoundM t) (h : EdB w0.heap.size E bv t W0) (hG : Grew w0 W0) (W : World) (hW : Grew W0 W) (hv : W.heap[W0.heap.size]? = some (.cells ((newBr o).c (.slice none 0 0)).cells.toArray 53 (0, 0))) :
    Calls Tryz.prog 91 #[bv, .int .i64 (posF t.brs o.unit), .slice (some ⟨W0.heap.size, 0, none⟩) 1 1] W fun e w7 => ∃ A7 n7 c7, e = .returned (.slice A7 n7 c7) ∧ (∃ bv', EdB w0.heap.size E bv' ⟨t.roots, insB (newBr o) t.brs⟩ (w7.setCell ⟨E, 1, none⟩ (.slice A7 n7 c7))) ∧ Grew w0 (w7.setCell ⟨E, 1, none⟩ (.slice A7 n7 c7)) ∧ w7.frozen? ⟨E, 1, none⟩ = false ∧ w7.cell? ⟨E, 1, none⟩ = some bv ∧ ∀ p x, W.cell? p = some x → some p.block ≠ bv.ownBlock → w7.cell? p = some x := by
  obtain ⟨rv, cs, hE⟩ := h
  have hT := tok_of hS
  have hlen := hE.len
  have hpl := pos_le t.brs o.unit
  have hEW := hE.grew hW
  refine (insertB w0 cs ((newBr o).c (.slice none 0 0)) (posF t.brs o.unit) W0.heap.size bv W (by rw [hlen]; exact hEW.brs) (hG.trans hW) hE.one rfl (by omega) (by rw [hlen]; exact hT.len) hv (fun e => by have := (hE.brs.lt _ e.symm).2; omega)).mono ?_
  rintro e w7 ⟨v7, rfl, own7, hgr7, -⟩
  obtain ⟨A7, c7, rfl⟩ := own_slice own7
  obtain ⟨h1, h2, h3, h4⟩ := insertDone (t1 := ⟨t.roots, insB (newBr o) t.brs⟩) hEW (by omega) rfl (by rw [insB_at (newBr o) t.brs]; rfl) (hG.trans hW) hgr7 own7
  exact ⟨A7, _, c7, rfl, h1, h2, h3, h4, fun p x hp hne => hgr7.cell hp hne⟩
theorem createPut {bv' : Value} {W : World} (hS : SoundM t) (hc : CanCreate t o) (h8 : EdB w0.heap.size E bv' ⟨t.roots, insB (newBr o) t.brs⟩ W) (hG8 : Grew w0 W) :
    Calls Tryz.prog 92 #[.pointer (some ⟨E, 0, none⟩), .int .i64 o.unit, .int .i64 o.parent, .int .i64 o.before] W fun e w' => e = .returned (.tuple #[]) ∧ EdB w0.heap.size E bv' (createT t o) w' ∧ Grew w0 w' := by
  obtain ⟨c1, c2, -⟩ := create_childs hS hc
  obtain ⟨p1, p2⟩ := create_put hS hc
  have hT := tok_of hS
  have hl : (insB (newBr o) t.brs).length ≤ 1000000 := by
    have := hc.room
    rw [len_insB]
    omega
  have := edPut h8 hG8 (create_asc hS hc) hl (p := o.parent) c2 o.unit o.before (by rw [c1]; exact p1) (by rw [c1]; exact p2) (by rw [c1]; exact hT.kids _)
  rw [create_eq hS hc] at this
  exact this
open Classical in
theorem createLimit {bv' : Value} {W : World} (hS : SoundM t) (hc : CanCreate t o) (h9 : EdB w0.heap.size E bv' (createT t o) W) (hEnv : Env W) :
    Calls Tryz.prog 93 #[.pointer (some ⟨E, 0, none⟩)] W fun e w' => e = .returned (.int .i64 (if RightT (createT t o) then 0 else 15)) ∧ Grew W w' := edLimit h9 (tok_of (create_sound hS hc)) hEnv
end
end Go.Proofs.YtafncfomiolmgaaGreatDoor

/- Moving a unit, step by step, plainly. No condition. -/
namespace Go.Proofs.YtafncfomiolmgaaGreatDoor
open Go.RowKit

/-- The unit is taken from its parent. -/
def takeM (t : Tr) (u : Br) : Tr := setK t u.parent (withoutF u.id (childs t u.parent))
/-- And it names its new parent. -/
def nameM (t : Tr) (u : Br) (p : Int) : Tr := setU (takeM t u) u.id fun b => { b with parent := p }
theorem setU_childs (t : Tr) (n p q : Int) : childs (setU t n fun b => { b with parent := p }) q = childs t q := by
  unfold childs
  by_cases h0 : q = 0
  · rw [if_pos h0, if_pos h0]
    rfl
  · rw [if_neg h0, if_neg h0]
    have e : brFind (setU t n fun b => { b with parent := p }).brs q = (brFind t.brs q).map fun b => if b.id = n then { b with parent := p } else b := find_map _ (fun b => by split <;> rfl) q
    rw [e]
    cases brFind t.brs q with
    | none => rfl
    | some b =>
      show (if b.id = n then { b with parent := p } else b).kids = b.kids
      split <;> rfl
theorem setU_setK (t : Tr) (n p q : Int) (ks : List Int) : setK (setU t n fun b => { b with parent := p }) q ks = setU (setK t q ks) n fun b => { b with parent := p } := by
  by_cases h0 : q = 0
  · unfold setK setU
    rw [if_pos h0, if_pos h0]
  · unfold setK setU
    rw [if_neg h0, if_neg h0]
    show Tr.mk _ _ = Tr.mk _ _
    rw [List.map_map, List.map_map]
    congr 1
    refine List.map_congr_left fun b _ => ?_
    obtain ⟨i, pa, lv, ti, mk, kd⟩ := b
    dsimp only [Function.comp_apply]
    by_cases h1 : i = n
    · subst h1
      by_cases h2 : i = q
      · subst h2
        simp
      · simp [h2]
    · by_cases h2 : i = q
      · subst h2
        simp [h1]
      · simp [h1, h2]
section
variable {t : Tr} {o : Opn} {u : Br}
theorem move_ids (q : Int) : (∃ b ∈ (nameM t u o.parent).brs, b.id = q) ↔ ∃ b ∈ t.brs, b.id = q := by
  rw [← setK_ids t u.parent (withoutF u.id (childs t u.parent)) q]
  unfold nameM setU takeM
  constructor
  · rintro ⟨b, hb, e⟩
    obtain ⟨c, hm, rfl⟩ := List.mem_map.1 hb
    refine ⟨c, hm, ?_⟩
    rw [← e]
    split <;> rfl
  · rintro ⟨b, hb, e⟩
    refine ⟨_, List.mem_map.2 ⟨b, hb, rfl⟩, ?_⟩
    rw [← e]
    split <;> rfl
theorem move_eq (hc : CanMove t o u) : setK (nameM t u o.parent) o.parent (putF o.unit o.before (childs (nameM t u o.parent) o.parent)) = moveT t o u := by
  unfold nameM moveT takeM
  rw [setU_setK, setU_childs, hc.id]
theorem move_asc (h : SoundM t) : idsAsc (nameM t u o.parent).brs := by
  have h1 : idsAsc (takeM t u).brs := by
    unfold takeM
    rw [setK_brs]
    split
    · exact h.asc
    · exact List.Pairwise.map _ (fun a b hab => by unfold kidG; (repeat' split) <;> exact hab) h.asc
  exact List.Pairwise.map _ (fun a b hab => by (repeat' split) <;> exact hab) h1
theorem move_len : (nameM t u o.parent).brs.length = t.brs.length := by
  unfold nameM setU takeM
  rw [List.length_map, setK_brs]
  split
  · rfl
  · rw [List.length_map]
theorem move_put (h : SoundM t) (hc : CanMove t o u) (hp : u.parent = 0 ∨ ∃ b ∈ t.brs, b.id = u.parent) :
    (o.before = 0 → (0 : Int) ∉ childs (nameM t u o.parent) o.parent) ∧ (o.before ≠ 0 → o.before ∈ childs (nameM t u o.parent) o.parent) ∧ (childs (nameM t u o.parent) o.parent).length ≤ 1000000 := by
  have hT := tok_of h
  unfold nameM
  rw [setU_childs]
  unfold takeM
  rw [setK_childs _ _ _ hp]
  have h0 : (0 : Int) ∉ childs t o.parent := fun hm => by
    obtain ⟨b, hb, _, e⟩ := (childs_mem h (stands_there hc.stands)).1 hm
    exact unit_pos (h.units b hb) e
  by_cases he : o.parent = u.parent
  · rw [if_pos he, ← he, hc.id]
    refine ⟨fun _ hm => h0 (List.mem_filter.1 hm).1, hc.before, Nat.le_trans (List.length_filter_le _ _) (hT.kids _)⟩
  · rw [if_neg he]
    exact ⟨fun _ => h0, fun hb => (List.mem_filter.1 (hc.before hb)).1, hT.kids _⟩
end
open Classical in
/-- What move returns. -/
noncomputable def resM (t : Tr) (o : Opn) (u : Br) : Int := if faultM t o ≠ 0 then faultM t o else if RightT (moveT t o u) then 0 else 15
open Classical in
theorem resM_of {t : Tr} {o : Opn} {u : Br} {n : Int} (h : faultM t o = n) (hn : n ≠ 0) : resM t o u = n := by
  unfold resM
  rw [h, if_pos hn]
theorem resM_2 {t : Tr} {o : Opn} {u : Br} (h : brFind t.brs o.unit = some u) (h2 : o.parent ≠ 0 ∧ (brFind t.brs o.parent).isSome = false) : resM t o u = 7 :=
  resM_of (by unfold faultM; rw [h]; simp only []; rw [if_pos h2]) (by decide)
theorem resM_3 {t : Tr} {o : Opn} {u : Br} (h : brFind t.brs o.unit = some u) (h2 : ¬ (o.parent ≠ 0 ∧ (brFind t.brs o.parent).isSome = false)) (h3 : o.parent ∈ belowT t o.unit) : resM t o u = 17 :=
  resM_of (by unfold faultM; rw [h]; simp only []; rw [if_neg h2, if_pos h3]) (by decide)
theorem resM_4 {t : Tr} {o : Opn} {u : Br} (h : brFind t.brs o.unit = some u) (h2 : ¬ (o.parent ≠ 0 ∧ (brFind t.brs o.parent).isSome = false)) (h3 : o.parent ∉ belowT t o.unit) (h4 : standsB t o.parent u.level = false) : resM t o u = 18 :=
  resM_of (by unfold faultM; rw [h]; simp only []; rw [if_neg h2, if_neg h3, if_pos h4]) (by decide)
theorem resM_5 {t : Tr} {o : Opn} {u : Br} (h : brFind t.brs o.unit = some u) (h2 : ¬ (o.parent ≠ 0 ∧ (brFind t.brs o.parent).isSome = false)) (h3 : o.parent ∉ belowT t o.unit) (h4 : standsB t o.parent u.level = true) (h5 : o.before ≠ 0 ∧ (o.before = o.unit ∨ o.before ∉ childs t o.parent)) : resM t o u = 7 :=
  resM_of (by unfold faultM; rw [h]; simp only []; rw [if_neg h2, if_neg h3, if_neg (by simp [h4]), if_pos h5]) (by decide)
open Classical in
theorem resM_6 {t : Tr} {o : Opn} {u : Br} (h : brFind t.brs o.unit = some u) (h2 : ¬ (o.parent ≠ 0 ∧ (brFind t.brs o.parent).isSome = false)) (h3 : o.parent ∉ belowT t o.unit) (h4 : standsB t o.parent u.level = true) (h5 : ¬ (o.before ≠ 0 ∧ (o.before = o.unit ∨ o.before ∉ childs t o.parent))) : faultM t o = 0 ∧ resM t o u = if RightT (moveT t o u) then 0 else 15 := by
  have e : faultM t o = 0 := by unfold faultM; rw [h]; simp only []; rw [if_neg h2, if_neg h3, if_neg (by simp [h4]), if_neg h5]
  refine ⟨e, ?_⟩
  unfold resM
  rw [e, if_neg (fun h => h rfl)]
end Go.Proofs.YtafncfomiolmgaaGreatDoor

/- slices.Compact at numbers, on a row of the call's own. No condition but the sizes that a slice can have. -/
namespace Go.Proofs.YtafncfomiolmgaaGreatDoor
open Go.RowKit Go.Sort

theorem comp_len (l : List Int) : (Lib.compact l).length ≤ l.length := by
  unfold Lib.compact Lib.compactUpTo
  rw [List.length_map]
  have := List.length_filter_le (Lib.keeps l.toArray) (List.range l.length)
  simpa using this
theorem compact_own (l : List Int) (w0 : World) (e : TypeId) (v : Value) (w : World) (hown : w.ownsRow w0.heap.size e 1 v l.length (l.flatMap oneI)) (hg : Grew w0 w) (hl : l.length ≤ 1000000) (hcl : (Lib.compact l).length ≤ l.length) :
    Calls Tryz.prog 66 #[v] w fun en w' => ∃ v', en = .returned v' ∧ SlI w' v' (Lib.compact l) ∧ Grew w0 w' := by
  rcases Nat.eq_zero_or_pos l.length with h0 | h0
  · obtain rfl : l = [] := List.eq_nil_of_length_eq_zero h0
    have hv : ∃ A c, v = .slice A 0 c := by
      rcases hown.2 with ⟨rfl, _⟩ | ⟨g, cap, cur, rfl, _⟩
      · exact ⟨_, _, rfl⟩
      · exact ⟨_, _, rfl⟩
    obtain ⟨A, c, rfl⟩ := hv
    refine (Tryz.slices_Compact_int_empty A c w).mono ?_
    rintro en w' ⟨rfl, rfl⟩
    have hc0 : Lib.compact ([] : List Int) = [] := List.eq_nil_of_length_eq_zero (by simpa using hcl)
    refine ⟨_, rfl, ?_, hg⟩
    rw [hc0]
    exact Rd.of_own hown
  · obtain ⟨g, cap, rfl, hbg, hlt, hcap⟩ := own_form hown h0
    have hH := holdsI_of_own hown
    refine (Tryz.slices_Compact_int g 0 cap l w hH (by omega) hcap).mono ?_
    rintro en w' ⟨rfl, n, rfl⟩
    have hfl : (Lib.compact l ++ List.replicate (l.length - (Lib.compact l).length) (0 : Int)).length = l.length := by simp; omega
    have hh2 := holds_putRow (Value.int .i64) (Sort.ahead w n) g 0 l.toArray (Lib.compact l ++ List.replicate (l.length - (Lib.compact l).length) (0 : Int)).toArray (holds_ahead _ _ _ _ _ _ hH) (by simpa using hfl)
    have hs := slI_of_holds hh2 (by simp; omega) (by rw [hfl]; exact hcap) (own_max hown)
    refine ⟨_, rfl, ?_, grew_putI hbg hg _ _⟩
    have := Rd.take (k := 1) (f := oneI) (fun _ => rfl) (by omega) (show Rd _ 1 _ (_) from hs) (Lib.compact l).length (by simp)
    rw [List.take_left] at this
    exact this
end Go.Proofs.YtafncfomiolmgaaGreatDoor

/- A set of numbers that is kept in a map: what it has, and what a range over it collects. No condition. -/
namespace Go.Proofs.YtafncfomiolmgaaGreatDoor
open Go.RowKit Go.Maps

/-- The set of some numbers, as a map to true. -/
def setInts (ks : List Int) : DataW Unit := setOf (.lit (.bool true)) (ks.map fun n => .int .i64 n)
theorem has_setInts (ks : List Int) (n : Int) : has (setInts ks) (.int .i64 n) = true ↔ n ∈ ks := by
  unfold setInts
  rw [has_setOf _ _ _ (fun x hx => by
    obtain ⟨m, _, rfl⟩ := List.mem_map.1 hx
    trivial), List.any_eq_true]
  constructor
  · rintro ⟨x, hx, hs⟩
    obtain ⟨m, hm, rfl⟩ := List.mem_map.1 hx
    simp [Lit.sameKey] at hs
    exact hs ▸ hm
  · intro h
    exact ⟨_, List.mem_map.2 ⟨n, h, rfl⟩, by simp [Lit.sameKey]⟩
/-- What has come of a range over a map keyed by numbers. -/
def CollI (D0 : DataW Unit) (left : Lit → Bool) (ks : List Int) : Prop := ks.Nodup ∧ ∀ x, x ∈ ks ↔ (has D0 (.int .i64 x) = true ∧ left (.int .i64 x) = false)
theorem CollI.start (D0 : DataW Unit) : CollI D0 (has D0) [] := ⟨List.nodup_nil, fun x => by cases has D0 (.int .i64 x) <;> simp⟩
theorem CollI.step {D0 : DataW Unit} {left : Lit → Bool} {ks : List Int} (h : CollI D0 left ks) {x : Int} {y : DataW Unit} (hlk : left (.int .i64 x) = true) (hat : ∀ zd, D0.atKey (.int .i64 x) zd = y) : CollI D0 (fun z => left z && !z.sameKey (.int .i64 x)) (ks ++ [x]) := by
  have hhas : has D0 (.int .i64 x) = true := has_true_of_atKey hat
  have hnew : x ∉ ks := fun hx => by have := ((h.2 x).1 hx).2; rw [hlk] at this; cases this
  refine ⟨List.nodup_append.2 ⟨h.1, by simp, fun a ha b hb => by simp at hb; subst hb; exact fun e => hnew (e ▸ ha)⟩, fun y => ?_⟩
  by_cases hy : y = x
  · subst hy; simp [hhas, Lit.sameKey]
  · simp [h.2 y, hy, Lit.sameKey]
theorem CollI.done {ks0 : List Int} {left : Lit → Bool} {ks : List Int} (h : CollI (setInts ks0) left ks) (hl : ∀ kl, left kl = false) : ks.Nodup ∧ ∀ n, n ∈ ks ↔ n ∈ ks0 :=
  ⟨h.1, fun n => by rw [h.2 n, has_setInts]; simp [hl]⟩
theorem row_ne_map {P : Program} {k : TypeId} {R : Value → Option (DataW Unit × List MemPlace)} {w : World} {b n : Nat} {D : DataW Unit} {base : Nat} {e : TypeId} {size : Nat} {v : Value} {m : Nat} {xs : List Value}
    (h : w.ownsRow base e size v m xs) (hm : w.ownsMap P k R b n D) : some b ≠ v.ownBlock := by
  obtain ⟨es, clock, hit, _⟩ := hm
  rcases h.2 with ⟨rfl, _⟩ | ⟨g, cap, cur, rfl, _, hb, _⟩
  · simp [Value.ownBlock]
  · intro e1
    have : b = g := by simpa [Value.ownBlock] using e1
    subst this
    rw [hit] at hb
    cases hb
end Go.Proofs.YtafncfomiolmgaaGreatDoor

/- tree.path on a right tree, walked. The condition: the lists are short. -/
namespace Go.Proofs.YtafncfomiolmgaaGreatDoor
open Go.RowKit

theorem find_mem {l : List Br} {id : Int} {b : Br} (h : brFind l id = some b) : b ∈ l ∧ b.id = id := by
  refine ⟨List.mem_of_find?_eq_some h, ?_⟩
  have := List.find?_some h
  simpa using this
/-- Where the way stands. -/
def Way (l : List Br) (rest : List Int) (z : Int) : Prop := (rest = [] ∧ z = 0) ∨ ∃ y n, y ∈ l ∧ z = y.id ∧ rest = upIds l n y ∧ (deep l n y).isSome = true
theorem Way.step {l : List Br} (hP : ∀ i (h : i < l.length), BrPlaced l l[i]) {y : Br} {n : Nat} (hy : y ∈ l) (hd : (deep l n y).isSome = true) : ∃ rest, upIds l n y = y.id :: rest ∧ Way l rest y.parent := by
  by_cases h0 : y.parent = 0
  · exact ⟨[], upIds_top l n y h0, .inl ⟨rfl, h0⟩⟩
  · cases n with
    | zero => rw [deep_cycle l y h0] at hd; cases hd
    | succ n =>
      obtain ⟨j, hj, rfl⟩ := List.mem_iff_getElem.1 hy
      have := hP j hj
      unfold BrPlaced at this
      rw [if_neg h0] at this
      obtain ⟨p, hp, _⟩ := this
      obtain ⟨hpm, hpi⟩ := find_mem hp
      refine ⟨upIds l n p, upIds_up l n _ p h0 hp, .inr ⟨p, n, hpm, hpi.symm, rfl, ?_⟩⟩
      rw [deep_up l n _ p h0 hp] at hd
      simpa using hd
end Go.Proofs.YtafncfomiolmgaaGreatDoor

/- tree.walk: what its recursive closure does, by induction on how far down the tree goes. The conditions: the tree is right; the rounds write one box and the row behind it alone. -/
namespace Go.Proofs.YtafncfomiolmgaaGreatDoor
open Go.RowKit Go.Shelf

attribute [local go_sem] Oper.semAt_some

theorem room_free {F : Fence} (hd : F.depth = none) (k : Nat) : F.room k := fun d h => by rw [hd] at h; cases h
theorem roundFree {F : Fence} (hd : F.depth = none) {m m' : Nat} {P : Program} {l : Nat} {f : FuncId} {tmps : Array Value} {assign body : Code} {w : World} {R : Ending → World → Prop}
    (h : RoundIn F m P l f tmps assign body w R) : RoundIn F m' P l f tmps assign body w R := ⟨h.1, fun c cs _ => h.2 c cs (room_free hd _)⟩
theorem yieldFree {F : Fence} (hd : F.depth = none) {m : Nat} (m' : Nat) {P : Program} {l : Nat} {args : Array Value} {W : World} {R : Ending → World → Prop} (h : YieldAt F m P l args W R) : YieldAt F m' P l args W R := by
  obtain ⟨fn, tmps, assign, body, hy, hR⟩ := h
  exact ⟨fn, tmps, assign, body, hy, roundFree hd hR⟩

/-- All blocks of cells stay but block B and the row to which it leads. -/
structure KpO (B : Nat) (W W' : World) : Prop where
  size : W.heap.size ≤ W'.heap.size
  block : ∀ k o, W.heap[k]? = some o → o.isCells = true → k ≠ B → (∀ v, W.cell? ⟨B, 0, none⟩ = some v → v.ownBlock ≠ some k) → W'.heap[k]? = some o
  row : ∀ v', W'.cell? ⟨B, 0, none⟩ = some v' → (∃ v, W.cell? ⟨B, 0, none⟩ = some v ∧ v.ownBlock = v'.ownBlock) ∨ ∀ b, v'.ownBlock = some b → W.heap.size ≤ b ∧ b < W'.heap.size
/-- Block B is there, and what it leads to is there. -/
def OutIn (B : Nat) (W : World) : Prop := B < W.heap.size ∧ ∀ v, W.cell? ⟨B, 0, none⟩ = some v → ∀ b, v.ownBlock = some b → b < W.heap.size
/-- Block k holds o, and is neither block B nor the row to which B leads. -/
def Prot (B : Nat) (W : World) (k : Nat) (o : Obj) : Prop := W.heap[k]? = some o ∧ o.isCells = true ∧ k ≠ B ∧ ∀ v, W.cell? ⟨B, 0, none⟩ = some v → v.ownBlock ≠ some k
def KpB (n₀ B : Nat) (W W' : World) : Prop := Below n₀ W W' ∧ KpO B W W'
section
variable {n₀ B k : Nat} {W W' W2 : World} {o : Obj}
theorem KpO.refl (B : Nat) (W : World) : KpO B W W := ⟨Nat.le_refl _, fun _ _ h _ _ _ => h, fun v' h => .inl ⟨v', h, rfl⟩⟩
theorem KpO.trans (h : KpO B W W') (j : KpO B W' W2) : KpO B W W2 := by
  refine ⟨Nat.le_trans h.size j.size, fun k o ho hc hne hr => ?_, fun v' hv' => ?_⟩
  · refine j.block k o (h.block k o ho hc hne hr) hc hne fun v' hv' hb => ?_
    have hk := (Array.getElem?_eq_some_iff.1 ho).1
    rcases h.row v' hv' with ⟨v, hv, e⟩ | h2
    · exact hr v hv (by rw [e]; exact hb)
    · have := (h2 k hb).1
      omega
  · rcases j.row v' hv' with ⟨v, hv, e⟩ | h2
    · rcases h.row v hv with ⟨u, hu, e2⟩ | h3
      · exact .inl ⟨u, hu, e2.trans e⟩
      · refine .inr fun b hb => ?_
        have h4 := h3 b (by rw [e]; exact hb)
        have := j.size
        omega
    · refine .inr fun b hb => ?_
      have h4 := h2 b hb
      have := h.size
      omega
theorem KpO.grew (hB : B < W.heap.size) (h : Grew W W') : KpO B W W' :=
  ⟨h.size, fun k o ho _ _ _ => by rw [h.block k (Array.getElem?_eq_some_iff.1 ho).1]; exact ho, fun v' hv' => .inl ⟨v', by rw [← h.cell hB]; exact hv', rfl⟩⟩
theorem OutIn.kp (h : OutIn B W) (j : KpO B W W') : OutIn B W' := by
  refine ⟨Nat.lt_of_lt_of_le h.1 j.size, fun v' hv' b hb => ?_⟩
  rcases j.row v' hv' with ⟨v, hv, e⟩ | h2
  · exact Nat.lt_of_lt_of_le (h.2 v hv b (by rw [e]; exact hb)) j.size
  · exact (h2 b hb).2
theorem Prot.kp (h : Prot B W k o) (j : KpO B W W') : Prot B W' k o := by
  obtain ⟨h1, h2, h3, h4⟩ := h
  refine ⟨j.block k o h1 h2 h3 h4, h2, h3, fun v' hv' hb => ?_⟩
  have hk := (Array.getElem?_eq_some_iff.1 h1).1
  rcases j.row v' hv' with ⟨v, hv, e⟩ | h5
  · exact h4 v hv (by rw [e]; exact hb)
  · have := (h5 k hb).1
    omega
theorem Prot.new (h : OutIn B W) (hc : o.isCells = true) : Prot B (W.alloc o) W.heap.size o := by
  refine ⟨World.alloc_heap_new W o, hc, by have := h.1; omega, fun v hv hb => ?_⟩
  have hv2 : W.cell? ⟨B, 0, none⟩ = some v := by rw [← hv]; exact (World.cell?_alloc_lt _ _ _ h.1).symm
  have := h.2 v hv2 _ hb
  omega
theorem Prot.cell {vs : Array Value} {t : TypeId} (h : Prot B W k (.cells vs t (0, 0))) (j : Nat) (v : Value) (hj : vs[j]? = some v) : W.cell? ⟨k, j, none⟩ = some v := by
  simp [World.cell?, h.1, hj]
theorem KpB.refl (n₀ B : Nat) (W : World) : KpB n₀ B W W := ⟨Below.refl _ _, KpO.refl _ _⟩
theorem KpB.trans (h : KpB n₀ B W W') (j : KpB n₀ B W' W2) : KpB n₀ B W W2 := ⟨h.1.trans j.1, h.2.trans j.2⟩
theorem KpB.grew (hB : B < W.heap.size) (hn : n₀ ≤ W.heap.size) (h : Grew W W') : KpB n₀ B W W' := ⟨h.below.mono hn, KpO.grew hB h⟩
theorem kpB_put {w : World} (hn : n₀ ≤ w.heap.size) (hB : B < w.heap.size) (W : World) (l : Nat) (o o' : Obj) (hl : w.heap.size ≤ l) (h : W.heap[l]? = some o) (hc : o.isCells = false) (hw : o.isWalk = false) : KpB n₀ B W (W.putObj l o') := by
  have hg := grownBy_putObj' W l o'
  refine ⟨belowK_b hn W l o o' hl h hc hw, hg.size, fun k o2 ho hc2 _ _ => ?_, fun v' hv' => .inl ⟨v', ?_, rfl⟩⟩
  · rw [hg.block k (Array.getElem?_eq_some_iff.1 ho).1 (fun e => ?_)]
    · exact ho
    · injection e with e
      subst e
      rw [h] at ho
      injection ho with ho
      rw [← ho, hc] at hc2
      cases hc2
  · have hBW : B < W.heap.size := by have := (Array.getElem?_eq_some_iff.1 h).1; omega
    rw [← hv']
    exact (World.cell?_of_block (hg.block B hBW (fun e => by injection e with e; omega))).symm
end
/-- slices.IndexFunc at numbers, the function that is handed over doing whatever it does: R i holds behind i rounds; St holds where it has said yes. -/
theorem idxEff (l : List Int) (g : Nat) (lb : Array Value) (eg : ∀ args w, (callFunc g args).run Tryz.prog w = .ok (.enter g args) w) (v : Value) (w0 w : World) (hv : SlI w0 v l) (R : Nat → World → Prop) (St : World → Prop) (hR0 : R 0 w) (hRg : ∀ i W, R i W → Grew w0 W)
    (hp : ∀ i (hi : i < l.length) W, R i W → Calls Tryz.prog g (#[(.int .i64 l[i])] ++ lb) W fun e w' => (e = .returned (.bool false) ∧ R (i + 1) w') ∨ (e = .returned (.bool true) ∧ St w')) :
    Calls Tryz.prog 75 #[v, .func (.func g) #[] lb] w fun e w' => (e = .returned (.int .i64 (-1)) ∧ R l.length w') ∨ (∃ i : Nat, e = .returned (.int .i64 (i : Int)) ∧ St w') := by
  obtain ⟨A, c, rfl, hlc, hc, hr⟩ := hv.open_
  unfold maxLen at hc
  have HR := Lib.hid hr
  have HP := Lib.hid hp
  have HG := Lib.hid hRg
  have HR0 := Lib.hid hR0
  clear hr hp hv hRg hR0
  go_enter Tryz.func75, Tryz.ntmps75
  go_wp2
  go_loopg [5, 8] l.length (fun gg _ s8 wr => ∃ kk : Nat, kk ≤ l.length ∧ l.length - kk ≤ gg ∧ s8 = .int .i64 kk ∧ Aside (R kk wr))
  case atStart => exact ⟨0, Nat.zero_le _, by omega, rfl, HR0.out⟩
  case round =>
    obtain ⟨kk, hkk, hg, rfl, BW⟩ := hrel
    by_cases hlt : kk < l.length
    · obtain ⟨b, off, rfl, hb, hcell⟩ := HR.out (by omega)
      obtain c0 := hcell wr (HG.out kk wr BW.out) kk hlt
      have hcall := HP.out kk hlt wr BW.out
      have hltz : (kk : Int) < (l.length : Int) := by omega
      clear hcell
      generalize l[kk] = y at c0 hcall
      go_wp2_with (go_at_fn g; refine hcall.mono ?_; rintro e w' (⟨rfl, hb'⟩ | ⟨rfl, hb'⟩))
      · go_roundg (l.length - (kk + 1))
        case measure => omega
        case rel => exact ⟨kk + 1, by omega, by omega, by go_num, (show Aside _ from hb')⟩
      · go_ret
        exact .inr ⟨kk, rfl, hb'⟩
    · have hltz : ¬ (kk : Int) < (l.length : Int) := by omega
      obtain rfl : kk = l.length := by omega
      go_wp2
      go_ret
      exact .inl ⟨rfl, BW.out⟩
theorem containsEff (l : List Int) (g : Nat) (lb : Array Value) (eg : ∀ args w, (callFunc g args).run Tryz.prog w = .ok (.enter g args) w) (v : Value) (w0 w : World) (hv : SlI w0 v l) (R : Nat → World → Prop) (St : World → Prop) (hR0 : R 0 w) (hRg : ∀ i W, R i W → Grew w0 W)
    (hp : ∀ i (hi : i < l.length) W, R i W → Calls Tryz.prog g (#[(.int .i64 l[i])] ++ lb) W fun e w' => (e = .returned (.bool false) ∧ R (i + 1) w') ∨ (e = .returned (.bool true) ∧ St w')) :
    Calls Tryz.prog 121 #[v, .func (.func g) #[] lb] w fun e w' => (e = .returned (.bool false) ∧ R l.length w') ∨ (e = .returned (.bool true) ∧ St w') := by
  have K := Lib.hid (idxEff l g lb eg v w0 w hv R St hR0 hRg hp)
  clear hv hR0 hRg hp
  go_enter Tryz.func121, Tryz.ntmps121
  go_wp2_with fail
  refine K.out.mono ?_
  rintro e w1 (⟨rfl, h⟩ | ⟨i, rfl, h⟩)
  · dsimp only
    go_wp2
    go_ret
    exact .inl ⟨rfl, h⟩
  · have h0 : (0 : Int) ≤ (i : Int) := by omega
    dsimp only
    go_wp2
    go_ret
    exact .inr ⟨rfl, h⟩
end Go.Proofs.YtafncfomiolmgaaGreatDoor

/- tree.walk's recursive closure: it hands on a unit and all that are below it. The conditions: the tree is right; the rounds write one box and the row behind it alone. -/
namespace Go.Proofs.YtafncfomiolmgaaGreatDoor
open Go.RowKit Go.Shelf

attribute [local go_sem] Oper.semAt_some

/-- The boxes that the closure reads. -/
structure Boxes (B lp Yb Tb Vb : Nat) (rv bv : Value) (W : World) : Prop where
  y : ∃ t, Prot B W Yb (.cells #[.func (.yield lp) #[] #[]] t (0, 0))
  t : ∃ t, Prot B W Tb (.cells #[rv, bv] t (0, 0))
  v : ∃ t, Prot B W Vb (.cells #[.func (.func 120) #[] #[.pointer (some ⟨Yb, 0, none⟩), .pointer (some ⟨Tb, 0, none⟩), .pointer (some ⟨Vb, 0, none⟩)]] t (0, 0))
theorem Boxes.kp {B lp Yb Tb Vb : Nat} {rv bv : Value} {W W' : World} (h : Boxes B lp Yb Tb Vb rv bv W) (j : KpO B W W') : Boxes B lp Yb Tb Vb rv bv W' :=
  ⟨h.y.imp fun _ p => p.kp j, h.t.imp fun _ p => p.kp j, h.v.imp fun _ p => p.kp j⟩
/-- How the closure ends: all of L has come, or a part of it. -/
def VisEnd (J Jx : List (Int × Int) → World → Prop) (n₀ B : Nat) (L : List Int) (pre : List (Int × Int)) (W : World) (e : Ending) (W' : World) : Prop :=
  (e = .returned (.bool true) ∧ (∃ ys : List (Int × Int), ys.map Prod.fst = L ∧ J (pre ++ ys) W') ∧ KpB n₀ B W W') ∨ (e = .returned (.bool false) ∧ ∃ ys : List (Int × Int), ys.map Prod.fst <+: L ∧ Jx (pre ++ ys) W')
theorem tVisit1 (kid above : Int) (Vb Ab : Nat) (p1 p2 p3 : Value) (W : World) (c1 : W.cell? ⟨Vb, 0, none⟩ = some (.func (.func 120) #[] #[p1, p2, p3])) (c2 : W.cell? ⟨Ab, 0, none⟩ = some (.int .i64 above)) (R1 R2 : World → Prop)
    (h : ∀ a : Int, Calls Tryz.prog 120 (#[.int .i64 kid, .int .i64 a] ++ #[p1, p2, p3]) W fun e W' => (e = .returned (.bool true) ∧ R1 W') ∨ (e = .returned (.bool false) ∧ R2 W')) :
    Calls Tryz.prog 122 (#[.int .i64 kid] ++ #[.pointer (some ⟨Vb, 0, none⟩), .pointer (some ⟨Ab, 0, none⟩)]) W fun e W' => (e = .returned (.bool false) ∧ R1 W') ∨ (e = .returned (.bool true) ∧ R2 W') := by
  have H := Lib.hid h
  clear h
  go_enter Tryz.func122, Tryz.ntmps122
  go_wp2_with fail
  refine (H.out _).mono ?_
  rintro e w' (⟨rfl, hb'⟩ | ⟨rfl, hb'⟩)
  · dsimp only
    go_wp2
    go_ret
    exact .inl ⟨rfl, hb'⟩
  · dsimp only
    go_wp2
    go_ret
    exact .inr ⟨rfl, hb'⟩
theorem enters_tVisit1 : ∀ args w, (callFunc 122 args).run Tryz.prog w = .ok (.enter 122 args) w := enters_of Tryz.func122 (by kernel_rfl) rfl
theorem flat_next (g : Int → List Int) (ks : List Int) (i : Nat) (hi : i < ks.length) : (ks.take (i + 1)).flatMap g = (ks.take i).flatMap g ++ g ks[i] := by
  rw [List.take_succ_eq_append_getElem hi, List.flatMap_append]
  simp
theorem flat_split (g : Int → List Int) (ks : List Int) (i : Nat) (hi : i < ks.length) : ks.flatMap g = (ks.take i).flatMap g ++ (g ks[i] ++ (ks.drop (i + 1)).flatMap g) := by
  have h : ks.flatMap g = (ks.take (i + 1) ++ ks.drop (i + 1)).flatMap g := by rw [List.take_append_drop]
  rw [h, List.flatMap_append, flat_next g ks i hi, List.append_assoc]
/-- What holds behind i children. -/
def VisR (B lp Yb Tb Vb : Nat) (rv bv : Value) (w0 W : World) (above : Int) (pre : List (Int × Int)) (J : List (Int × Int) → World → Prop) (ks : List Int) (g : Int → List Int) (i : Nat) (W' : World) : Prop :=
  Boxes B lp Yb Tb Vb rv bv W' ∧ OutIn B W' ∧ Prot B W' W.heap.size (.cells #[.int .i64 above] 3 (0, 0)) ∧ Grew w0 W' ∧ KpB w0.heap.size B W W' ∧ ∃ ys : List (Int × Int), ys.map Prod.fst = (ks.take i).flatMap g ∧ J (pre ++ ys) W'
theorem VisR.grew {B lp Yb Tb Vb : Nat} {rv bv : Value} {w0 W W' : World} {above : Int} {pre : List (Int × Int)} {J : List (Int × Int) → World → Prop} {ks : List Int} {g : Int → List Int} {i : Nat} (h : VisR B lp Yb Tb Vb rv bv w0 W above pre J ks g i W') : Grew w0 W' := h.2.2.2.1
def VisS (pre : List (Int × Int)) (Jx : List (Int × Int) → World → Prop) (ks : List Int) (g : Int → List Int) (W' : World) : Prop := ∃ ys : List (Int × Int), ys.map Prod.fst <+: ks.flatMap g ∧ Jx (pre ++ ys) W'
theorem visStep {B lp Yb Tb Vb N : Nat} {rv bv : Value} {w0 W W4 : World} {above : Int} {pre : List (Int × Int)} {J Jx : List (Int × Int) → World → Prop} {ks : List Int} {g : Int → List Int} {i : Nat} (hi : i < ks.length) (hN : pre.length + (ks.flatMap g).length ≤ N)
    (hK : ∀ above pre W, Boxes B lp Yb Tb Vb rv bv W → OutIn B W → Grew w0 W → J pre W → pre.length + (g ks[i]).length ≤ N →
      Calls Tryz.prog 120 #[.int .i64 ks[i], .int .i64 above, .pointer (some ⟨Yb, 0, none⟩), .pointer (some ⟨Tb, 0, none⟩), .pointer (some ⟨Vb, 0, none⟩)] W (VisEnd J Jx w0.heap.size B (g ks[i]) pre W))
    (h : VisR B lp Yb Tb Vb rv bv w0 W above pre J ks g i W4) :
    Calls Tryz.prog 122 (#[.int .i64 ks[i]] ++ #[.pointer (some ⟨Vb, 0, none⟩), .pointer (some ⟨W.heap.size, 0, none⟩)]) W4 fun e W' => (e = .returned (.bool false) ∧ VisR B lp Yb Tb Vb rv bv w0 W above pre J ks g (i + 1) W') ∨ (e = .returned (.bool true) ∧ VisS pre Jx ks g W') := by
  obtain ⟨hB, hO, hPA, hG, hK4, ys, hys, hj⟩ := h
  obtain ⟨tv, hpv⟩ := hB.v
  have hsp := flat_split g ks i hi
  have hlen : ys.length = ((ks.take i).flatMap g).length := by rw [← hys, List.length_map]
  refine tVisit1 ks[i] above Vb W.heap.size _ _ _ W4 (hpv.cell 0 _ rfl) (hPA.cell 0 _ rfl) _ _ fun a => ?_
  refine (hK a (pre ++ ys) W4 hB hO hG hj ?_).mono ?_
  · rw [hsp] at hN
    simp only [List.length_append] at hN ⊢
    omega
  · rintro e W' (⟨rfl, ⟨zs, hzs, hj'⟩, hk'⟩ | ⟨rfl, zs, hzs, hj'⟩)
    · refine .inl ⟨rfl, hB.kp hk'.2, hO.kp hk'.2, hPA.kp hk'.2, Below.trans hG hk'.1, hK4.trans hk', ys ++ zs, ?_, by rw [← List.append_assoc]; exact hj'⟩
      rw [flat_next g ks i hi, List.map_append, hys, hzs]
    · refine .inr ⟨rfl, ys ++ zs, ?_, by rw [← List.append_assoc]; exact hj'⟩
      rw [hsp, List.map_append, hys]
      obtain ⟨r, hr⟩ := hzs
      exact ⟨r ++ (ks.drop (i + 1)).flatMap g, by rw [← hr]; simp⟩
set_option maxHeartbeats 4000000 in
set_option maxRecDepth 100000 in
/-- One activation: the unit itself, and then what its children hand on. -/
theorem tVisitBody (rs : List Int) (l : List Br) (rv bv : Value) (w0 : World) (hr : SlI w0 rv rs) (hv : SlBr w0 bv l) (hf : l.length ≤ 1000000) (hT : RightT ⟨rs, l⟩) (B lp Yb Tb Vb N : Nat) (J Jx : List (Int × Int) → World → Prop)
    (hJ : ∀ s W W', J s W → Grew W W' → J s W')
    (hY : ∀ m pre (x : Int × Int) W, J pre W → pre.length < N → YieldAt Fence.wide m Tryz.prog lp #[.int .i64 x.1, .int .i64 x.2] W fun e W' =>
      (e = .returned (.bool true) ∧ J (pre ++ [x]) W' ∧ KpB w0.heap.size B W W') ∨ (e = .returned (.bool false) ∧ Jx (pre ++ [x]) W'))
    (x : Int) (hid : x = 0 ∨ ∃ b, brFind l x = some b) (g : Int → List Int)
    (hK : ∀ k ∈ childs ⟨rs, l⟩ x, ∀ above pre W, Boxes B lp Yb Tb Vb rv bv W → OutIn B W → Grew w0 W → J pre W → pre.length + (g k).length ≤ N →
      Calls Tryz.prog 120 #[.int .i64 k, .int .i64 above, .pointer (some ⟨Yb, 0, none⟩), .pointer (some ⟨Tb, 0, none⟩), .pointer (some ⟨Vb, 0, none⟩)] W (VisEnd J Jx w0.heap.size B (g k) pre W))
    (above : Int) (pre : List (Int × Int)) (W : World) (hB : Boxes B lp Yb Tb Vb rv bv W) (hO : OutIn B W) (hG : Grew w0 W) (hj : J pre W) (hN : pre.length + (x :: (childs ⟨rs, l⟩ x).flatMap g).length ≤ N) :
    Calls Tryz.prog 120 #[.int .i64 x, .int .i64 above, .pointer (some ⟨Yb, 0, none⟩), .pointer (some ⟨Tb, 0, none⟩), .pointer (some ⟨Vb, 0, none⟩)] W (VisEnd J Jx w0.heap.size B (x :: (childs ⟨rs, l⟩ x).flatMap g) pre W) := by
  simp only [List.length_cons] at hN
  obtain ⟨W1, hW1⟩ : ∃ W1, W1 = W.alloc (.cells #[.int .i64 above] 3) := ⟨_, rfl⟩
  have hn0 : w0.heap.size ≤ W.heap.size := hG.size
  have hgA : Grew W W1 := by rw [hW1]; exact (Grew.refl W).alloc _
  have hkA : KpB w0.heap.size B W W1 := KpB.grew hO.1 hn0 hgA
  have hPA : Prot B W1 W.heap.size (.cells #[.int .i64 above] 3 (0, 0)) := by rw [hW1]; exact Prot.new hO rfl
  have hB1 := hB.kp hkA.2
  have hO1 := hO.kp hkA.2
  obtain ⟨fn, tmps, assign, body, hy, hR⟩ := hY 8 pre (x, above) W1 (hJ _ _ _ hj hgA) (by omega)
  obtain ⟨ty, hpy⟩ := hB1.y
  have cy : W1.cell? ⟨Yb, 0, none⟩ = some (.func (.yield lp) #[] #[]) := hpy.cell 0 _ rfl
  have ca : W1.cell? ⟨W.heap.size, 0, none⟩ = some (.int .i64 above) := hPA.cell 0 _ rfl
  have HPA := Lib.hid hPA
  have HB1 := Lib.hid hB1
  have HO1 := Lib.hid hO1
  have HKA := Lib.hid hkA
  have HG1 := Lib.hid (hG.trans hgA)
  have HN := Lib.hid hN
  have HK := Lib.hid hK
  have HJ := Lib.hid hJ
  have HKI := Lib.hid (fun W (hW : Grew w0 W) => tKids0 rs l x rv bv w0 W hr hv hW hf hT hid)
  generalize childs ⟨rs, l⟩ x = ks at HN HK HKI ⊢
  clear hr hv hT hJ hY hK hB hO hG hj hN hgA hkA hPA hB1 hO1 hpy hid hf hn0
  subst hW1
  refine (callsIn_wide (n := 9)).1 ?_
  refine callsIn_of_wp Tryz.func120 rfl trivial ?_ rfl
  simp only [Tryz.ntmps120, List.size_toArray, List.length_cons, List.length_nil, Nat.reduceAdd, Nat.reduceSub, Array.replicate_succ, Array.replicate_zero, List.push_toArray, List.append_toArray, List.nil_append, List.cons_append]
  gi_wp2_with fail
  refine hR.mono ?_
  rintro e W2 (⟨rfl, hJ2, hk2⟩ | ⟨rfl, hJx2⟩)
  · have HK2 := Lib.hid (HKA.out.trans hk2)
    have HB2 := Lib.hid (HB1.out.kp hk2.2)
    have HO2 := Lib.hid (HO1.out.kp hk2.2)
    have HPA2 := Lib.hid (HPA.out.kp hk2.2)
    have HG2 := Lib.hid (show Grew w0 W2 from Below.trans HG1.out hk2.1)
    obtain ⟨tt, hpt⟩ := HB2.out.t
    have t0 : W2.cell? ⟨Tb, 0, none⟩ = some rv := hpt.cell 0 _ rfl
    have t1 : W2.cell? ⟨Tb, 1, none⟩ = some bv := hpt.cell 1 _ rfl
    have HJ2 := Lib.hid hJ2
    clear hk2 hpt hJ2
    dsimp only
    gi_wp2_with fail
    refine ⟨trivial, (callsIn_wide.2 (HKI.out _ HG2.out)).mono ?_⟩
    rintro e W3 ⟨v3, rfl, s3, g3⟩
    have hk3 : KpB w0.heap.size B W2 W3 := KpB.grew HO2.out.1 HG2.out.size g3
    have hc := containsEff ks 122 #[.pointer (some ⟨Vb, 0, none⟩), .pointer (some ⟨W.heap.size, 0, none⟩)] enters_tVisit1 v3 w0 W3 s3 (VisR B lp Yb Tb Vb rv bv w0 W above (pre ++ [(x, above)]) J ks g) (VisS (pre ++ [(x, above)]) Jx ks g)
      ⟨HB2.out.kp hk3.2, HO2.out.kp hk3.2, HPA2.out.kp hk3.2, HG2.out.trans g3, HK2.out.trans hk3, [], by simp, by simpa using HJ.out _ _ _ HJ2.out g3⟩ (fun _ _ h => h.grew) (fun i hi W4 hR4 => visStep hi (by have := HN.out; simp only [List.length_append, List.length_cons, List.length_nil]; omega) (HK.out ks[i] (List.getElem_mem hi)) hR4)
    have HC := Lib.hid hc
    clear hk3 hc t0 t1 g3
    dsimp only
    gi_wp2_with fail
    refine ⟨trivial, (callsIn_wide.2 HC.out).mono ?_⟩
    rintro e W4 (⟨rfl, h4⟩ | ⟨rfl, h4⟩)
    · dsimp only
      gi_wp2
      go_ret
      obtain ⟨-, -, -, -, hk4, ys, hys, hj4⟩ := h4
      rw [List.take_length] at hys
      exact .inl ⟨rfl, ⟨(x, above) :: ys, by simp [hys], by simpa [List.append_assoc] using hj4⟩, hk4⟩
    · dsimp only
      gi_wp2
      go_ret
      obtain ⟨ys, hys, hj4⟩ := h4
      exact .inr ⟨rfl, (x, above) :: ys, by simpa using hys, by simpa [List.append_assoc] using hj4⟩
  · dsimp only
    gi_wp2
    go_ret
    exact .inr ⟨rfl, [(x, above)], by simp, hJx2⟩
end Go.Proofs.YtafncfomiolmgaaGreatDoor

/- tree.walk and tree.Below, walked. The conditions: the library's own variables hold what they must; the lists are short. -/
namespace Go.Proofs.YtafncfomiolmgaaGreatDoor
open Go.RowKit Go.Shelf

attribute [local go_sem] Oper.semAt_some

theorem Prot.fresh {B k : Nat} {W W' : World} {o : Obj} (h : OutIn B W) (hg : Grew W W') (hk : W.heap.size ≤ k) (ho : W'.heap[k]? = some o) (hc : o.isCells = true) : Prot B W' k o := by
  refine ⟨ho, hc, by have := h.1; omega, fun v hv hb => ?_⟩
  rw [hg.cell h.1] at hv
  have := h.2 v hv _ hb
  omega
theorem cell_two (W : World) (o : Obj) (v : Value) (t : TypeId) : ((W.alloc o).alloc (.cells #[v] t)).cell? ⟨W.heap.size + 1, 0, none⟩ = some v ∧ ((W.alloc o).alloc (.cells #[v] t)).frozen? ⟨W.heap.size + 1, 0, none⟩ = false := by
  have h := World.alloc_heap_new (W.alloc o) (.cells #[v] t)
  rw [World.size_alloc] at h
  exact ⟨cell_of_one h, free_of_one h⟩
theorem func_one (f : Fn) (b : Array Value) : (Value.func f #[] b).oneCell' = true := by simp [Value.oneCell']
/-- What holds behind k roots. -/
def RootR (B lp Yb Tb Vb : Nat) (rv bv : Value) (w0 : World) (J : List (Int × Int) → World → Prop) (rs : List Int) (g : Int → List Int) (k : Nat) (W : World) : Prop :=
  Boxes B lp Yb Tb Vb rv bv W ∧ OutIn B W ∧ Grew w0 W ∧ ∃ ys : List (Int × Int), ys.map Prod.fst = (rs.take k).flatMap g ∧ J ys W
theorem rootStep {B lp Yb Tb Vb : Nat} {rv bv : Value} {w0 W W5 : World} {J : List (Int × Int) → World → Prop} {rs : List Int} {g : Int → List Int} {k : Nat} {ys zs : List (Int × Int)} (hk : k < rs.length) (hB : Boxes B lp Yb Tb Vb rv bv W) (hO : OutIn B W) (hG : Grew w0 W) (hys : ys.map Prod.fst = (rs.take k).flatMap g)
    (h1 : zs.map Prod.fst = g rs[k]) (h2 : J (ys ++ zs) W5) (h3 : KpB w0.heap.size B W W5) : RootR B lp Yb Tb Vb rv bv w0 J rs g (k + 1) W5 :=
  ⟨hB.kp h3.2, hO.kp h3.2, Below.trans hG h3.1, ys ++ zs, by rw [flat_next g rs k hk, List.map_append, hys, h1], h2⟩
theorem rootStop {rs : List Int} {g : Int → List Int} {k : Nat} {ys zs : List (Int × Int)} (hk : k < rs.length) (hys : ys.map Prod.fst = (rs.take k).flatMap g) (h1 : zs.map Prod.fst <+: g rs[k]) : (ys ++ zs).map Prod.fst <+: rs.flatMap g := by
  rw [flat_split g rs k hk, List.map_append, hys]
  obtain ⟨r, hr⟩ := h1
  exact ⟨r ++ (rs.drop (k + 1)).flatMap g, by rw [← hr]; simp⟩
section
variable (rs : List Int) (l : List Br) (rv bv : Value) (w0 : World) (hr : SlI w0 rv rs) (hv : SlBr w0 bv l) (hf : l.length ≤ 1000000) (hT : RightT ⟨rs, l⟩) (B lp Yb Tb Vb N : Nat) (J Jx : List (Int × Int) → World → Prop)
    (hJ : ∀ s W W', J s W → Grew W W' → J s W')
    (hY : ∀ m pre (x : Int × Int) W, J pre W → pre.length < N → YieldAt Fence.wide m Tryz.prog lp #[.int .i64 x.1, .int .i64 x.2] W fun e W' =>
      (e = .returned (.bool true) ∧ J (pre ++ [x]) W' ∧ KpB w0.heap.size B W W') ∨ (e = .returned (.bool false) ∧ Jx (pre ++ [x]) W'))
include hr hv hf hT hJ hY
theorem tVisit : ∀ (f : Nat) (b : Br) (d : Nat), b ∈ l → deep l l.length b = some d → l.length ≤ f + d → ∀ above pre W, Boxes B lp Yb Tb Vb rv bv W → OutIn B W → Grew w0 W → J pre W → pre.length + (belowL ⟨rs, l⟩ f b.id).length ≤ N →
    Calls Tryz.prog 120 #[.int .i64 b.id, .int .i64 above, .pointer (some ⟨Yb, 0, none⟩), .pointer (some ⟨Tb, 0, none⟩), .pointer (some ⟨Vb, 0, none⟩)] W (VisEnd J Jx w0.heap.size B (belowL ⟨rs, l⟩ f b.id) pre W) := by
  have hS := right_sound hT
  intro f
  induction f with
  | zero =>
    intro b d hb hd hfd above pre W hB hO hG hj hN
    have hno : childs ⟨rs, l⟩ b.id = [] := by
      rw [List.eq_nil_iff_forall_not_mem]
      intro k hk
      obtain ⟨c, hc, hcp, _⟩ := (childs_mem hS (.inr ⟨b, hb, rfl⟩)).1 hk
      have h1 := deep_child hS hb hc hcp hd
      have h2 := deep_le hS.asc hc h1
      have h3 : (Tr.brs ⟨rs, l⟩).length = l.length := rfl
      omega
    have he : belowL ⟨rs, l⟩ 0 b.id = b.id :: (childs ⟨rs, l⟩ b.id).flatMap (fun _ => []) := by rw [hno]; rfl
    rw [he] at hN ⊢
    exact tVisitBody rs l rv bv w0 hr hv hf hT B lp Yb Tb Vb N J Jx hJ hY b.id (.inr ⟨b, find_byid hS.asc hb⟩) _ (fun k hk => by rw [hno] at hk; cases hk) above pre W hB hO hG hj hN
  | succ f ih =>
    intro b d hb hd hfd above pre W hB hO hG hj hN
    refine tVisitBody rs l rv bv w0 hr hv hf hT B lp Yb Tb Vb N J Jx hJ hY b.id (.inr ⟨b, find_byid hS.asc hb⟩) (belowL ⟨rs, l⟩ f) (fun k hk => ?_) above pre W hB hO hG hj hN
    obtain ⟨c, hc, hcp, e⟩ := (childs_mem hS (.inr ⟨b, hb, rfl⟩)).1 hk
    rw [← e]
    exact ih c (d + 1) hc (deep_child hS hb hc hcp hd) (by omega)
set_option maxHeartbeats 4000000 in
set_option maxRecDepth 100000 in
theorem tWalk1 (Ib : Nat) (id : Int) (hid : id = 0 ∨ ∃ b, brFind l id = some b) (hN : (belowT ⟨rs, l⟩ id).length ≤ N) (W : World) (hTb : ∃ t, Prot B W Tb (.cells #[rv, bv] t (0, 0))) (hIb : W.cell? ⟨Ib, 0, none⟩ = some (.int .i64 id)) (hO : OutIn B W) (hG : Grew w0 W) (h0 : J [] W)
    (hVb : Vb = W.heap.size + 1) (hYb : Yb = W.heap.size) :
    Calls Tryz.prog 119 #[.func (.yield lp) #[] #[], .pointer (some ⟨Tb, 0, none⟩), .pointer (some ⟨Ib, 0, none⟩)] W fun e W' => (∃ v, e = .returned v) ∧ ((∃ xs : List (Int × Int), xs.map Prod.fst = belowT ⟨rs, l⟩ id ∧ J xs W') ∨ (∃ pre : List (Int × Int), pre.map Prod.fst <+: belowT ⟨rs, l⟩ id ∧ Jx pre W')) := by
  have hS := right_sound hT
  have hV := tVisit rs l rv bv w0 hr hv hf hT B lp Yb Tb Vb N J Jx hJ hY
  have hVr : ∀ k ∈ rs, ∀ above pre W, Boxes B lp Yb Tb Vb rv bv W → OutIn B W → Grew w0 W → J pre W → pre.length + (belowL ⟨rs, l⟩ l.length k).length ≤ N →
      Calls Tryz.prog 120 #[.int .i64 k, .int .i64 above, .pointer (some ⟨Yb, 0, none⟩), .pointer (some ⟨Tb, 0, none⟩), .pointer (some ⟨Vb, 0, none⟩)] W (VisEnd J Jx w0.heap.size B (belowL ⟨rs, l⟩ l.length k) pre W) := by
    intro k hk
    obtain ⟨c, hc, _, e⟩ := (hS.roots.2 k).1 hk
    obtain ⟨d, hd, _⟩ := deep_some hS hc
    rw [← e]
    exact hV l.length c d hc hd (by omega)
  have hVi : ∀ b, brFind l id = some b → ∀ above pre W, Boxes B lp Yb Tb Vb rv bv W → OutIn B W → Grew w0 W → J pre W → pre.length + (belowL ⟨rs, l⟩ l.length id).length ≤ N →
      Calls Tryz.prog 120 #[.int .i64 id, .int .i64 above, .pointer (some ⟨Yb, 0, none⟩), .pointer (some ⟨Tb, 0, none⟩), .pointer (some ⟨Vb, 0, none⟩)] W (VisEnd J Jx w0.heap.size B (belowL ⟨rs, l⟩ l.length id) pre W) := by
    intro b hb
    have hin := find_in hb
    obtain ⟨d, hd, _⟩ := deep_some hS hin.1
    rw [← hin.2]
    exact hV l.length b d hin.1 hd (by omega)
  subst hVb hYb
  obtain ⟨tb, hpt⟩ := hTb
  have t0 : W.cell? ⟨Tb, 0, none⟩ = some rv := hpt.cell 0 _ rfl
  obtain ⟨W2, hW2⟩ : ∃ W2, W2 = (W.alloc (.cells #[.func (.yield lp) #[] #[]] 120)).alloc (.cells #[.func (.func 120) #[] #[.pointer (some ⟨W.heap.size, 0, none⟩), .pointer (some ⟨Tb, 0, none⟩), .pointer (some ⟨W.heap.size + 1, 0, none⟩)]] 120) := ⟨_, rfl⟩
  have hgA : Grew W W2 := by rw [hW2]; exact ((Grew.refl W).alloc _).alloc _
  have hB2 : Boxes B lp W.heap.size Tb (W.heap.size + 1) rv bv W2 := by
    refine ⟨⟨_, Prot.fresh hO hgA (Nat.le_refl _) (o := .cells #[.func (.yield lp) #[] #[]] 120 (0, 0)) ?_ rfl⟩, ⟨tb, hpt.kp (KpO.grew hO.1 hgA)⟩, ⟨_, Prot.fresh hO hgA (Nat.le_succ _) (o := .cells #[.func (.func 120) #[] #[.pointer (some ⟨W.heap.size, 0, none⟩), .pointer (some ⟨Tb, 0, none⟩), .pointer (some ⟨W.heap.size + 1, 0, none⟩)]] 120 (0, 0)) ?_ rfl⟩⟩
    · rw [hW2]
      rw [Below.heap_alloc _ _ _ (by simp)]
      exact World.alloc_heap_new W _
    · rw [hW2]
      have := World.alloc_heap_new (W.alloc (.cells #[.func (.yield lp) #[] #[]] 120)) (.cells #[.func (.func 120) #[] #[.pointer (some ⟨W.heap.size, 0, none⟩), .pointer (some ⟨Tb, 0, none⟩), .pointer (some ⟨W.heap.size + 1, 0, none⟩)]] 120)
      rwa [World.size_alloc] at this
  have hO2 := hO.kp (KpO.grew hO.1 hgA)
  have hi2 : W2.cell? ⟨Ib, 0, none⟩ = some (.int .i64 id) := keep_cell hgA hIb
  have ht2 : W2.cell? ⟨Tb, 0, none⟩ = some rv := keep_cell hgA t0
  have hv2 : W2.cell? ⟨W.heap.size + 1, 0, none⟩ = some (.func (.func 120) #[] #[.pointer (some ⟨W.heap.size, 0, none⟩), .pointer (some ⟨Tb, 0, none⟩), .pointer (some ⟨W.heap.size + 1, 0, none⟩)]) := by
    obtain ⟨tv, hpv⟩ := hB2.v
    exact hpv.cell 0 _ rfl
  have HJ2 := Lib.hid (hJ _ _ _ h0 hgA)
  have HB2 := Lib.hid hB2
  have HO2 := Lib.hid hO2
  have HG2 := Lib.hid (hG.trans hgA)
  have HVr := Lib.hid hVr
  have HVi := Lib.hid hVi
  have HNN := Lib.hid hN
  have HR := Lib.hid hr
  have HJ := Lib.hid hJ
  have HW2 := Lib.hid hW2
  have HI2 := Lib.hid hi2
  have HT2 := Lib.hid ht2
  have HV2 := Lib.hid hv2
  clear hW2 hi2 ht2 hv2 t0 hIb
  clear hV hVr hVi hS hT hY hv hf hB2 hO2 hgA hpt hO hG h0 hN hr
  by_cases hz : id = 0
  · subst hz
    have hbt : belowT ⟨rs, l⟩ 0 = rs.flatMap (belowL ⟨rs, l⟩ l.length) := by
      unfold belowT
      rw [if_pos rfl]
    rw [hbt] at HNN ⊢
    generalize belowL ⟨rs, l⟩ l.length = g at HVr HVi HNN ⊢
    obtain ⟨A, c, rfl, hlc, hc, hcr⟩ := HR.out.open_
    unfold maxLen at hc
    have HCR := Lib.hid hcr
    clear hbt hcr hid HVi
    obtain ⟨cn, fn⟩ := cell_two W (.cells #[.func (.yield lp) #[] #[]] 120) .nilFunc 120
    have ho := func_one (.func 120) #[.pointer (some ⟨W.heap.size, 0, none⟩), .pointer (some ⟨Tb, 0, none⟩), .pointer (some ⟨W.heap.size + 1, 0, none⟩)]
    have hi2 := HI2.out
    have ht2 := HT2.out
    rw [HW2.out] at hi2 ht2
    go_enter Tryz.func119, Tryz.ntmps119
    go_wp2
    go_loopg [6, 16] rs.length (fun gg _ s16 wr => ∃ k : Nat, k ≤ rs.length ∧ rs.length - k ≤ gg ∧ s16 = .int .i64 k ∧ Aside (RootR B lp W.heap.size Tb (W.heap.size + 1) (.slice A rs.length c) bv w0 J rs g k wr))
    case atStart => exact ⟨0, by omega, by omega, rfl, (show Aside _ from by rw [← HW2.out]; exact ⟨HB2.out, HO2.out, HG2.out, [], by simp, HJ2.out⟩)⟩
    case round =>
      obtain ⟨k, hk, hgk, rfl, RW⟩ := hrel
      by_cases hlt : k < rs.length
      · have hltz : (k : Int) < (rs.length : Int) := by omega
        have h0z : (0 : Int) ≤ (k : Int) := by omega
        obtain ⟨b, off, rfl, hbk, hcell⟩ := HCR.out (by omega)
        obtain ⟨hBr, hOr, hGr, ys, hys, hjr⟩ := RW.out
        have c0 := hcell wr hGr k hlt
        obtain ⟨tv, hpv⟩ := hBr.v
        have cv : wr.cell? ⟨W.heap.size + 1, 0, none⟩ = some (.func (.func 120) #[] #[.pointer (some ⟨W.heap.size, 0, none⟩), .pointer (some ⟨Tb, 0, none⟩), .pointer (some ⟨W.heap.size + 1, 0, none⟩)]) := hpv.cell 0 _ rfl
        have hsp := flat_split g rs k hlt
        have hlen : ys.length = ((rs.take k).flatMap g).length := by rw [← hys, List.length_map]
        have hcall := HVr.out rs[k] (List.getElem_mem hlt) 0 ys wr hBr hOr hGr hjr (by
          have := HNN.out
          rw [hsp] at this
          simp only [List.length_append] at this
          omega)
        have HCALL := Lib.hid hcall
        have HST := Lib.hid (fun W5 (zs : List (Int × Int)) h1 h2 h3 => rootStep (J := J) (g := g) (rs := rs) hlt hBr hOr hGr hys (W5 := W5) (zs := zs) h1 h2 h3)
        have HSX := Lib.hid (fun (zs : List (Int × Int)) h1 => rootStop (g := g) (rs := rs) hlt hys (zs := zs) h1)
        clear hcell hBr hOr hGr hys hjr hpv hsp hlen hcall
        generalize rs[k] = y at c0 HCALL HST HSX
        go_wp2_with fail
        refine HCALL.out.mono ?_
        rintro e W5 (⟨rfl, ⟨zs, hzs, hj5⟩, hk5⟩ | ⟨rfl, zs, hzs, hj5⟩)
        · have hst := HST.out W5 zs hzs hj5 hk5
          dsimp only
          go_wp2
          go_roundg (rs.length - (k + 1))
          case measure => omega
          case rel => exact ⟨k + 1, by omega, by omega, by go_num, (show Aside _ from hst)⟩
        · have hsx := HSX.out zs hzs
          dsimp only
          go_wp2
          refine bodyPost_ret (results_none rfl _ _ _) rfl ?_
          exact ⟨⟨_, rfl⟩, .inr ⟨ys ++ zs, hsx, hj5⟩⟩
      · have hltz : ¬ (k : Int) < (rs.length : Int) := by omega
        obtain rfl : k = rs.length := by omega
        go_wp2
        go_end0
        obtain ⟨-, -, -, ys, hys, hjr⟩ := RW.out
        rw [List.take_length] at hys
        exact ⟨⟨_, rfl⟩, .inl ⟨ys, hys, hjr⟩⟩
  · obtain ⟨b, hb⟩ := hid.resolve_left hz
    have hbt : belowT ⟨rs, l⟩ id = belowL ⟨rs, l⟩ l.length id := by
      unfold belowT
      rw [if_neg hz]
    rw [hbt] at HNN ⊢
    have HC := Lib.hid (HVi.out b hb 0 [] W2 HB2.out HO2.out HG2.out HJ2.out (by have := HNN.out; simpa using this))
    generalize belowL ⟨rs, l⟩ l.length id = L at HC ⊢
    have hz' : (id == 0) = false := by simpa using hz
    have hi2 := HI2.out
    have hv2 := HV2.out
    rw [HW2.out] at hi2 hv2 HC
    obtain ⟨cn, fn⟩ := cell_two W (.cells #[.func (.yield lp) #[] #[]] 120) .nilFunc 120
    have ho := func_one (.func 120) #[.pointer (some ⟨W.heap.size, 0, none⟩), .pointer (some ⟨Tb, 0, none⟩), .pointer (some ⟨W.heap.size + 1, 0, none⟩)]
    clear hbt hb hid HVr HVi hz
    go_enter Tryz.func119, Tryz.ntmps119
    go_wp2_with fail
    refine HC.out.mono ?_
    rintro e W5 (⟨rfl, ⟨zs, hzs, hj5⟩, hk5⟩ | ⟨rfl, zs, hzs, hj5⟩)
    · dsimp only
      go_wp2
      refine bodyPost_ret (results_none rfl _ _ _) rfl ?_
      exact ⟨⟨_, rfl⟩, .inl ⟨zs, hzs, by simpa using hj5⟩⟩
    · dsimp only
      go_wp2
      refine bodyPost_ret (results_none rfl _ _ _) rfl ?_
      exact ⟨⟨_, rfl⟩, .inr ⟨zs, hzs, by simpa using hj5⟩⟩
end
end Go.Proofs.YtafncfomiolmgaaGreatDoor
