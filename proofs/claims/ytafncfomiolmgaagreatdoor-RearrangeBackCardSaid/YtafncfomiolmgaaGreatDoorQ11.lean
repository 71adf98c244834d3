/- Lemmas on what the functions of the program and of the library compute: Es6, PlainCr, Es7, Es7b, PlainCm, CompI, SetI, T11, Bw1. The conditions stand at each. -/
import Derived.Test.YtafncfomiolmgaaGreatDoorQ10
import Derived.Deep.RegionWith
import Derived.Test.YtafncfomiolmgaaGreatDoorQ5
import Derived.Test.YtafncfomiolmgaaGreatDoorQ2
import Derived.Test.YtafncfomiolmgaaGreatDoorQ1
import Derived.Maps.RangeWalk
import Derived.Maps.OwnSet
import Derived.RangeFuncLeaves
import Derived.RangeFuncBox
import Derived.OwnWalkIn
import Derived.TacticsInMore
import Derived.LoopNIn
import Derived.LoopIn
import Derived.Maps.AppendAt
import Derived.Test.YtafncfomiolmgaaGreatDoorQ8
import Derived.Test.YtafncfomiolmgaaGreatDoorQ9
/- The editor's remove, walked. The conditions: the tree is right; the lists are short. -/
namespace Go.Proofs.YtafncfomiolmgaaGreatDoor
open Go.RowKit

theorem erase_filter {l : List Br} (h : idsAsc l) {i : Nat} (hi : i < l.length) {n : Int} (hn : l[i].id = n) : l.eraseIdx i = l.filter fun c => !(c.id == n) := by
  induction l generalizing i with
  | nil => simp at hi
  | cons x r ih =>
    have h' := List.pairwise_cons.1 h
    cases i with
    | zero =>
      simp only [List.getElem_cons_zero] at hn
      rw [List.eraseIdx_cons_zero, List.filter_cons_of_neg (by simp [hn])]
      refine (List.filter_eq_self.2 fun y hy => ?_).symm
      have := h'.1 y hy
      simp only [Bool.not_eq_true', beq_eq_false_iff_ne]
      omega
    | succ i =>
      simp only [List.getElem_cons_succ] at hn
      have hi' : i < r.length := by simpa using hi
      have := h'.1 _ (List.getElem_mem hi')
      rw [List.eraseIdx_cons_succ, List.filter_cons_of_pos (by simp only [Bool.not_eq_true', beq_eq_false_iff_ne]; omega), ih h'.2 hi' hn]
section
variable {base E : Nat} {rv bv v' : Value} {cs : List BrC} {t : Tr} {w w1 : World}
theorem Ed.erase (h : Ed base E rv bv cs t w) {i : Nat} (hi : i < cs.length) (hg : w.grownBy w1 bv.ownBlock) (hv : w1.ownsRow base 53 6 v' (cs.eraseIdx i).length ((cs.eraseIdx i).flatMap BrC.cells)) :
    Ed base E rv v' (cs.eraseIdx i) ⟨t.roots, t.brs.eraseIdx i⟩ (w1.setCell ⟨E, 1, none⟩ v') := by
  have hit : i < t.brs.length := by have := h.len; omega
  have hl : (cs.eraseIdx i).length = (t.brs.eraseIdx i).length := by rw [List.length_eraseIdx_of_lt hi, List.length_eraseIdx_of_lt hit, h.len]
  refine h.setBrs hg (by rw [← hl]; exact hv) hl (fun j hj hj' => ?_) ?_
  · have key : ∀ m (hm : m < cs.length) (hm' : m < t.brs.length), cs[m] = t.brs[m].c cs[m].kv ∧ OwnI base w1 cs[m].kv t.brs[m].kids := fun m hm hm' =>
      ⟨(h.each m hm hm').1, own_kept (h.each m hm hm').2 hg (fun g hr hk => own_off (h.each m hm hm').2 h.brs ne_IB g hk hr)⟩
    rw [List.length_eraseIdx_of_lt hi] at hj
    rw [List.getElem_eraseIdx, List.getElem_eraseIdx]
    split
    · exact key j _ _
    · exact key (j + 1) _ _
  · refine List.Pairwise.sublist ?_ h.apart
    exact (List.Sublist.map _ (List.eraseIdx_sublist ..)).cons_cons _
end
theorem removeT_erase {t : Tr} {o : Opn} (h : idsAsc t.brs) {i : Nat} (hi : i < t.brs.length) (hn : t.brs[i].id = o.unit) : ⟨(setK t t.brs[i].parent (withoutF o.unit (childs t t.brs[i].parent))).roots, (setK t t.brs[i].parent (withoutF o.unit (childs t t.brs[i].parent))).brs.eraseIdx i⟩ = removeT t o t.brs[i] := by
  unfold removeT
  simp only [Tr.mk.injEq, true_and]
  have hl : (setK t t.brs[i].parent (withoutF o.unit (childs t t.brs[i].parent))).brs.length = t.brs.length := by
    rw [setK_brs]
    split <;> simp
  have hc := core_setK t t.brs[i].parent (withoutF o.unit (childs t t.brs[i].parent))
  have hia := asc_core h hc.symm
  refine erase_filter hia (by omega) ?_
  have h1 : ((setK t t.brs[i].parent (withoutF o.unit (childs t t.brs[i].parent))).brs.map core)[i]? = (t.brs.map core)[i]? := by rw [hc]
  rw [List.getElem?_map, List.getElem?_map, List.getElem?_eq_getElem (by omega), List.getElem?_eq_getElem hi] at h1
  have h2 := Option.some.inj h1
  have h3 := congrArg Br.id h2
  exact h3.trans hn
section
variable {w0 : World} {E : Nat} {bv : Value} {t : Tr} {w : World}
theorem removeDone {w1 w2 : World} {t1 R : Tr} {rv v' : Value} {cs : List BrC} {i : Nat} (h : Ed w0.heap.size E rv bv cs t1 w1) (hi : i < cs.length) (hR : ⟨t1.roots, t1.brs.eraseIdx i⟩ = R) (hG : Grew w0 w1) (hg : w1.grownBy w2 bv.ownBlock) (hv : w2.ownsRow w0.heap.size 53 6 v' (cs.eraseIdx i).length ((cs.eraseIdx i).flatMap BrC.cells)) :
    MEnd w0 E R 0 (.returned (.int .i64 0)) (w2.setCell ⟨E, 1, none⟩ v') ∧ w2.frozen? ⟨E, 1, none⟩ = false ∧ w2.cell? ⟨E, 1, none⟩ = some bv := by
  have hbx : w2.heap[E]? = some (.cells #[rv, bv] 73 (0, 0)) := heap_kept h.box hg (own_ne h.brs h.box ne_BE)
  refine ⟨⟨rfl, (Below.grown hG hg hG.size (fun b e => (h.brs.lt b e).1)).setCell (p := ⟨E, 1, none⟩) h.le v', fun _ => ⟨v', rv, cs.eraseIdx i, ?_⟩⟩, by simp [World.frozen?, hbx], by simp [World.cell?, hbx]⟩
  rw [← hR]
  exact h.erase hi hg hv
set_option maxHeartbeats 4000000 in
theorem edRemove (h : EdB w0.heap.size E bv t w) (hG : Grew w0 w) (hT : TOk t) (o : Opn) (R : Tr) (hR : ∀ u, brFind t.brs o.unit = some u → removeT t o u = R) :
    Calls Tryz.prog 51 #[.pointer (some ⟨E, 0, none⟩), o.agg] w (MEnd w0 E R (faultR t o)) := by
  have hC := fun W (hW : Grew (w.alloc (.cells o.cells.toArray 25)) W) => opn_cells o hW
  have HC := Lib.hid hC
  have HG := Lib.hid hG
  have KF := Lib.hid (fun W (hW : Grew w W) => edFind (h.grew hW) hT.asc hT.len o.unit)
  unfold faultR
  cases hb : brFind t.brs o.unit with
  | none =>
    rw [hb] at KF
    dsimp only [Option.isSome_none] at KF ⊢
    obtain ⟨oi, od, ok, ou, op, ob, ol, ot, om, oo, oa, on⟩ := o
    unfold Opn.agg
    clear h hG hT hb hC hR
    dsimp only [Opn.cells] at KF HC ⊢
    go_enter Tryz.func51, Tryz.ntmps51
    go_wp2_with fail
    refine (KF.out _ ((Grew.refl w).alloc _)).mono ?_
    rintro e w1 ⟨rfl, g1⟩
    dsimp only
    go_wp2
    go_ret
    exact ⟨rfl, HG.out.trans (((Grew.refl w).alloc _).trans g1), fun h => by cases h⟩
  | some b =>
    obtain ⟨i, hi, eb, ei⟩ := find_at hb
    have hpos := pos_at hT.asc hi
    rw [ei] at hpos
    rw [hb, hpos] at KF
    dsimp only [Option.isSome_some] at KF ⊢
    obtain ⟨rv, cs, hE⟩ := h
    have hEB : EdB w0.heap.size E bv t w := ⟨rv, cs, hE⟩
    obtain ⟨B, cap, hbv⟩ := hEB.at_ hi
    obtain ⟨-, -, -, -, -, ⟨kv, c5, hkv⟩, -, -, -⟩ := hE.at_ hi hbv
    have hcap : t.brs.length ≤ cap ∧ cap ≤ maxLen := by
      have h1 := hE.brs
      rw [hbv] at h1
      obtain ⟨g', cap', he, _, _, h3⟩ := own_form h1 (by omega)
      injection he with _ _ hc
      subst hc
      exact ⟨h3, own_max h1⟩
    unfold maxLen at hcap
    obtain ⟨hc1, hc2⟩ := hcap
    have hib : (i : Int) < (t.brs.length : Int) := by omega
    have h0z : (0 : Int) ≤ (i : Int) := by omega
    have cb := hE.cells.2.1
    rw [hbv] at cb
    obtain ⟨Ak, ck, rfl, hlk, hck, -⟩ := hkv.open_
    unfold maxLen at hck
    rw [eb] at c5 hlk
    have C5 := Lib.hid c5
    have CB := Lib.hid cb
    by_cases hk : b.kids = []
    case neg =>
      rw [if_pos hk]
      have hkz : (0 : Int) < (b.kids.length : Int) := by
        have := List.length_pos_iff.2 hk
        omega
      obtain ⟨oi, od, ok, ou, op, ob, ol, ot, om, oo, oa, on⟩ := o
      unfold Opn.agg
      generalize t.brs.length = n at hib hc1 CB
      clear hE hEB hG hT hb hC hR hi hbv c5 cb hkv eb ei hpos hk
      dsimp only [Opn.cells] at KF HC ⊢
      go_enter Tryz.func51, Tryz.ntmps51
      go_wp2_with fail
      refine (KF.out _ ((Grew.refl w).alloc _)).mono ?_
      rintro e w1 ⟨rfl, g1⟩
      have d5 := keep_cell (((Grew.refl w).alloc _).trans g1) C5.out
      have db := keep_cell (((Grew.refl w).alloc _).trans g1) CB.out
      dsimp only
      go_wp2
      go_ret
      exact ⟨rfl, HG.out.trans (((Grew.refl w).alloc _).trans g1), fun h => by cases h⟩
    case pos =>
      rw [if_neg (fun h => h hk)]
      have hkl : b.kids.length = 0 := by rw [hk]; rfl
      rw [hkl] at C5
      have hpar : t.brs[i].parent = 0 ∨ ∃ c ∈ t.brs, c.id = t.brs[i].parent := parent_there hT.sound (List.getElem_mem hi)
      have KT := Lib.hid (fun W (hW : Grew w W) => edTake (hEB.grew hW) (hG.trans hW) hT.asc hT.len hi hpar)
      have HREQ := Lib.hid ((removeT_erase hT.asc hi ei).trans (show removeT t o t.brs[i] = R from by rw [eb]; exact hR b hb))
      rw [ei] at KT
      have hcl : cs.length = t.brs.length := hE.len
      have hl1 : (setK t t.brs[i].parent (withoutF o.unit (childs t t.brs[i].parent))).brs.length = t.brs.length := by
        rw [setK_brs]
        split <;> simp
      generalize setK t t.brs[i].parent (withoutF o.unit (childs t t.brs[i].parent)) = t1 at KT HREQ hl1
      have HL1 := Lib.hid hl1
      have HTL := Lib.hid hT.len
      have hbv2 := Lib.hid hbv
      obtain ⟨oi, od, ok, ou, op, ob, ol, ot, om, oo, oa, on⟩ := o
      unfold Opn.agg
      have hi2 := hi
      generalize t.brs.length = n at hib hc1 CB HL1 HTL hbv2 hi2
      clear hE hEB hG hT hb hC hR hbv c5 cb hkv eb ei hpos hk hpar hcl hl1 hlk hkl hi
      dsimp only [Opn.cells] at KF HC KT ⊢
      go_enter Tryz.func51, Tryz.ntmps51
      go_wp2_with fail
      refine (KF.out _ ((Grew.refl w).alloc _)).mono ?_
      rintro e w1 ⟨rfl, g1⟩
      obtain ⟨o3, -, -, -, -, -⟩ := HC.out w1 g1
      have HG1 := Lib.hid (((Grew.refl w).alloc _).trans g1)
      have d5 := keep_cell HG1.out C5.out
      have db := keep_cell HG1.out CB.out
      clear g1
      dsimp only
      go_wp2_with fail
      refine (KT.out _ HG1.out).mono ?_
      rintro e w2 ⟨rfl, hE2, hG2⟩
      obtain ⟨rv2, cs2, hE2⟩ := hE2
      have e1 := hE2.cells.2.1
      have hcs : cs2.length = n := hE2.len.trans HL1.out
      have hdel := deleteB w0.heap.size cs2 i (by omega) bv w2 (by rw [hE2.len]; exact hE2.brs) hE2.one (by rw [hcs]; exact HTL.out)
      have HE2 := Lib.hid hE2
      have HDEL := Lib.hid hdel
      have HG2 := Lib.hid hG2
      have HCS := Lib.hid hcs
      clear d5 db o3 hE2 hdel hG2 hcs
      rw [hbv2.out] at e1
      dsimp only
      go_wp2_with fail
      rw [← hbv2.out]
      refine HDEL.out.mono ?_
      rintro e w3 ⟨v3, rfl, own3, hgr3, -⟩
      obtain ⟨A3, c3, rfl⟩ := own_slice own3
      obtain ⟨hd, hz, hcz⟩ := removeDone HE2.out (by rw [HCS.out]; exact hi2) HREQ.out HG2.out hgr3 own3
      have HDD := Lib.hid hd
      clear hd own3 hgr3 e1
      dsimp only
      go_wp2
      go_ret
      exact HDD.out
end
end Go.Proofs.YtafncfomiolmgaaGreatDoor

/- Creating a unit, step by step, plainly. No condition. -/
namespace Go.Proofs.YtafncfomiolmgaaGreatDoor
open Go.RowKit

theorem tok_of {t : Tr} (h : SoundM t) : TOk t := by
  have hl : ∀ {ks : List Int} {p : Int}, KidsAre t.brs ks p → ks.length ≤ 256 := by
    intro ks p hk
    have h1 := List.Nodup.length_le_of_subset (l₂ := t.brs.map Br.id) hk.1 (fun x hx => by
      obtain ⟨b, hb, _, e⟩ := (hk.2 x).1 hx
      exact List.mem_map.2 ⟨b, hb, e⟩)
    rw [List.length_map] at h1
    exact Nat.le_trans h1 h.len
  have h0 := h.len
  refine ⟨h, ⟨by omega, fun i hi => ?_⟩, ?_⟩
  · have := hl (h.kids t.brs[i] (List.getElem_mem hi))
    omega
  · have := hl h.roots
    omega
theorem insB_at (b : Br) : ∀ l : List Br, insB b l = l.take (posF l b.id) ++ [b] ++ l.drop (posF l b.id)
  | [] => rfl
  | x :: r => by
    have ih := insB_at b r
    unfold insB posF passes
    by_cases h : x.id < b.id
    · have hp : decide (cmpId b.id x < 0) = true := by
        rw [decide_eq_true_eq, cmpId_lt]
        exact h
      rw [if_pos h, List.takeWhile_cons, if_pos hp, List.length_cons, List.take_succ_cons, List.drop_succ_cons, ih]
      rfl
    · have hp : ¬ decide (cmpId b.id x < 0) = true := by
        rw [decide_eq_true_eq, cmpId_lt]
        exact h
      rw [if_neg h, List.takeWhile_cons, if_neg hp]
      rfl
theorem pos_le (l : List Br) (id : Int) : posF l id ≤ l.length := by
  unfold posF passes
  exact (List.takeWhile_sublist _).length_le
def newBr (o : Opn) : Br := ⟨o.unit, o.parent, o.level, o.title, o.mark, []⟩
theorem create_childs {t : Tr} {o : Opn} (h : SoundM t) (hc : CanCreate t o) : childs ⟨t.roots, insB (newBr o) t.brs⟩ o.parent = childs t o.parent ∧ (o.parent = 0 ∨ ∃ b ∈ insB (newBr o) t.brs, b.id = o.parent) ∧ o.parent ≠ o.unit := by
  have hu0 : o.unit ≠ 0 := unit_pos hc.unit
  have hp := stands_there hc.stands
  have hne : o.parent ≠ o.unit := by
    rcases hp with e | ⟨b, hb, e⟩
    · rw [e]
      exact fun e => hu0 e.symm
    · rw [← e]
      exact hc.new b hb
  refine ⟨?_, ?_, hne⟩
  · rw [childs_insB h.asc (newBr o) hc.new hu0]
    exact if_neg hne
  · rcases hp with e | ⟨b, hb, e⟩
    · exact .inl e
    · exact .inr ⟨b, (mem_insB _ _ _).2 (.inr hb), e⟩
theorem create_eq {t : Tr} {o : Opn} (h : SoundM t) (hc : CanCreate t o) : setK ⟨t.roots, insB (newBr o) t.brs⟩ o.parent (putF o.unit o.before (childs ⟨t.roots, insB (newBr o) t.brs⟩ o.parent)) = createT t o := by
  obtain ⟨h1, -, hne⟩ := create_childs h hc
  rw [h1]
  unfold createT setK
  by_cases h0 : o.parent = 0
  · rw [if_pos h0, if_pos h0]
    rfl
  · rw [if_neg h0, if_neg h0]
    simp only [Tr.mk.injEq, true_and]
    have hg : ∀ b : Br, (if b.id = o.parent then { b with kids := putF o.unit o.before (childs t o.parent) } else b).id = b.id := fun b => by split <;> rfl
    rw [map_insB _ hg]
    have : (if (newBr o).id = o.parent then { newBr o with kids := putF o.unit o.before (childs t o.parent) } else newBr o) = newBr o := if_neg (fun e => hne e.symm)
    rw [this]
    rfl
theorem create_asc {t : Tr} {o : Opn} (h : SoundM t) (hc : CanCreate t o) : idsAsc (insB (newBr o) t.brs) := asc_insB (newBr o) t.brs h.asc hc.new
theorem create_put {t : Tr} {o : Opn} (h : SoundM t) (hc : CanCreate t o) : (o.before = 0 → (0 : Int) ∉ childs t o.parent) ∧ (o.before ≠ 0 → o.before ∈ childs t o.parent) := by
  refine ⟨fun _ hm => ?_, hc.before⟩
  obtain ⟨b, hb, _, e⟩ := (childs_mem h (stands_there hc.stands)).1 hm
  exact unit_pos (h.units b hb) e
end Go.Proofs.YtafncfomiolmgaaGreatDoor

/- The editor's create, walked. The conditions: the tree is right; the lists are short; the library's own variables hold what they must. -/
namespace Go.Proofs.YtafncfomiolmgaaGreatDoor
open Go.RowKit

open Classical in
/-- What create returns. -/
noncomputable def resC (t : Tr) (o : Opn) : Int := if faultC t o ≠ 0 then faultC t o else if RightT (createT t o) then 0 else 15
theorem resC_1 {t : Tr} {o : Opn} (h : (brFind t.brs o.unit).isSome = true) : resC t o = 6 := by
  have : faultC t o = 6 := by unfold faultC; rw [if_pos h]
  unfold resC
  rw [this, if_pos (by decide)]
theorem resC_2 {t : Tr} {o : Opn} (h : (brFind t.brs o.unit).isSome = false) (h2 : o.parent ≠ 0 ∧ (brFind t.brs o.parent).isSome = false) : resC t o = 7 := by
  have : faultC t o = 7 := by unfold faultC; rw [if_neg (by simp [h]), if_pos h2]
  unfold resC
  rw [this, if_pos (by decide)]
theorem resC_3 {t : Tr} {o : Opn} (h : (brFind t.brs o.unit).isSome = false) (h2 : ¬ (o.parent ≠ 0 ∧ (brFind t.brs o.parent).isSome = false)) (h3 : standsB t o.parent o.level = false) : resC t o = 18 := by
  have : faultC t o = 18 := by unfold faultC; rw [if_neg (by simp [h]), if_neg h2, if_pos h3]
  unfold resC
  rw [this, if_pos (by decide)]
theorem resC_4 {t : Tr} {o : Opn} (h : (brFind t.brs o.unit).isSome = false) (h2 : ¬ (o.parent ≠ 0 ∧ (brFind t.brs o.parent).isSome = false)) (h3 : standsB t o.parent o.level = true) (h4 : o.before ≠ 0 ∧ o.before ∉ childs t o.parent) : resC t o = 7 := by
  have : faultC t o = 7 := by unfold faultC; rw [if_neg (by simp [h]), if_neg h2, if_neg (by simp [h3]), if_pos h4]
  unfold resC
  rw [this, if_pos (by decide)]
theorem resC_5 {t : Tr} {o : Opn} (h : (brFind t.brs o.unit).isSome = false) (h2 : ¬ (o.parent ≠ 0 ∧ (brFind t.brs o.parent).isSome = false)) (h3 : standsB t o.parent o.level = true) (h4 : ¬ (o.before ≠ 0 ∧ o.before ∉ childs t o.parent)) (h5 : usedB t o.mark 0 = true) : resC t o = 19 := by
  have : faultC t o = 19 := by unfold faultC; rw [if_neg (by simp [h]), if_neg h2, if_neg (by simp [h3]), if_neg h4, if_pos h5]
  unfold resC
  rw [this, if_pos (by decide)]
theorem resC_6 {t : Tr} {o : Opn} (h : (brFind t.brs o.unit).isSome = false) (h2 : ¬ (o.parent ≠ 0 ∧ (brFind t.brs o.parent).isSome = false)) (h3 : standsB t o.parent o.level = true) (h4 : ¬ (o.before ≠ 0 ∧ o.before ∉ childs t o.parent)) (h5 : usedB t o.mark 0 = false) (h6 : 256 ≤ t.brs.length) : resC t o = 8 := by
  have : faultC t o = 8 := by unfold faultC; rw [if_neg (by simp [h]), if_neg h2, if_neg (by simp [h3]), if_neg h4, if_neg (by simp [h5]), if_pos h6]
  unfold resC
  rw [this, if_pos (by decide)]
open Classical in
theorem resC_7 {t : Tr} {o : Opn} (h : (brFind t.brs o.unit).isSome = false) (h2 : ¬ (o.parent ≠ 0 ∧ (brFind t.brs o.parent).isSome = false)) (h3 : standsB t o.parent o.level = true) (h4 : ¬ (o.before ≠ 0 ∧ o.before ∉ childs t o.parent)) (h5 : usedB t o.mark 0 = false) (h6 : ¬ 256 ≤ t.brs.length) : faultC t o = 0 ∧ resC t o = if RightT (createT t o) then 0 else 15 := by
  have : faultC t o = 0 := by unfold faultC; rw [if_neg (by simp [h]), if_neg h2, if_neg (by simp [h3]), if_neg h4, if_neg (by simp [h5]), if_neg h6]
  refine ⟨this, ?_⟩
  unfold resC
  rw [this, if_neg (fun h => h rfl)]
section
variable {w0 : World} {E : Nat} {bv : Value} {t : Tr} {w : World}
/-- Branch of a unit that may be there or not: nil or not. -/
theorem edBranchR {base : Nat} (h : EdB base E bv t w) (hT : TOk t) (id : Int) : ∃ A : Option Addr, A.isSome = (brFind t.brs id).isSome ∧ ∀ W, Grew w W → Calls Tryz.prog 86 #[.pointer (some ⟨E, 0, none⟩), .int .i64 id] W fun e w' => e = .returned (.pointer A) ∧ Grew W w' := by
  cases hb : brFind t.brs id with
  | none => exact ⟨none, rfl, fun W hW => edBranchNo (h.grew hW) hT.asc hT.len hb⟩
  | some b =>
    obtain ⟨i, hi, -, ei⟩ := find_at hb
    obtain ⟨B, cap, hbv⟩ := h.at_ hi
    refine ⟨some ⟨B, i * 6, none⟩, rfl, fun W hW => ?_⟩
    have := edBranch (h.grew hW) hT.asc hT.len hi hbv
    rw [ei] at this
    exact this
/-- What stands behind the block of a new unit: it is inserted. -/
theorem insertDone {w1 w2 : World} {t1 : Tr} {rv v' : Value} {cs : List BrC} {k : Nat} {b : Br} (h : Ed w0.heap.size E rv bv cs t w1) (hk : k ≤ cs.length) (hb : b.kids = []) (hR : ⟨t.roots, t.brs.take k ++ [b] ++ t.brs.drop k⟩ = t1) (hG : Grew w0 w1) (hg : w1.grownBy w2 bv.ownBlock)
    (hv : w2.ownsRow w0.heap.size 53 6 v' (cs.length + 1) ((cs.take k ++ [b.c (.slice none 0 0)] ++ cs.drop k).flatMap BrC.cells)) :
    (∃ bv', EdB w0.heap.size E bv' t1 (w2.setCell ⟨E, 1, none⟩ v')) ∧ Grew w0 (w2.setCell ⟨E, 1, none⟩ v') ∧ w2.frozen? ⟨E, 1, none⟩ = false ∧ w2.cell? ⟨E, 1, none⟩ = some bv := by
  have hbx : w2.heap[E]? = some (.cells #[rv, bv] 73 (0, 0)) := heap_kept h.box hg (own_ne h.brs h.box ne_BE)
  refine ⟨⟨v', rv, cs.take k ++ [b.c (.slice none 0 0)] ++ cs.drop k, ?_⟩, (Below.grown hG hg hG.size (fun b e => (h.brs.lt b e).1)).setCell (p := ⟨E, 1, none⟩) h.le v', by simp [World.frozen?, hbx], by simp [World.cell?, hbx]⟩
  rw [← hR]
  have hlen := h.len
  have hl : (cs.take k ++ [b.c (.slice none 0 0)] ++ cs.drop k).length = (t.brs.take k ++ [b] ++ t.brs.drop k).length := by simp [hlen]
  have hl2 : (t.brs.take k ++ [b] ++ t.brs.drop k).length = cs.length + 1 := by simp only [List.length_append, List.length_take, List.length_drop, List.length_cons, List.length_nil]; omega
  have key : ∀ m (hm : m < cs.length) (hm' : m < t.brs.length), cs[m] = t.brs[m].c cs[m].kv ∧ OwnI w0.heap.size w2 cs[m].kv t.brs[m].kids := fun m hm hm' =>
    ⟨(h.each m hm hm').1, own_kept (h.each m hm hm').2 hg (fun g hr hk => own_off (h.each m hm hm').2 h.brs ne_IB g hk hr)⟩
  refine h.setBrs hg (by rw [hl2]; exact hv) hl (fun j hj hj' => ?_) ?_
  · rw [hl, hl2] at hj
    rcases Nat.lt_trichotomy j k with hjk | hjk | hjk
    · have e1 : (cs.take k ++ [b.c (.slice none 0 0)] ++ cs.drop k)[j]? = cs[j]? := by
        rw [List.append_assoc, List.getElem?_append_left (by rw [List.length_take]; omega), List.getElem?_take, if_pos hjk]
      have e2 : (t.brs.take k ++ [b] ++ t.brs.drop k)[j]? = t.brs[j]? := by
        rw [List.append_assoc, List.getElem?_append_left (by rw [List.length_take]; omega), List.getElem?_take, if_pos hjk]
      rw [List.getElem?_eq_getElem (by omega), List.getElem?_eq_getElem (by omega)] at e1 e2
      rw [Option.some.inj e1, Option.some.inj e2]
      exact key j (by omega) (by omega)
    · subst hjk
      have e1 : (cs.take j ++ [b.c (.slice none 0 0)] ++ cs.drop j)[j]? = some (b.c (.slice none 0 0)) := by
        rw [List.append_assoc, List.getElem?_append_right (by rw [List.length_take]; omega), List.length_take, Nat.min_eq_left hk, Nat.sub_self]
        rfl
      have e2 : (t.brs.take j ++ [b] ++ t.brs.drop j)[j]? = some b := by
        rw [List.append_assoc, List.getElem?_append_right (by rw [List.length_take]; omega), List.length_take, Nat.min_eq_left (by omega), Nat.sub_self]
        rfl
      rw [List.getElem?_eq_getElem (by omega)] at e1 e2
      rw [Option.some.inj e1, Option.some.inj e2]
      refine ⟨rfl, ?_⟩
      show OwnI w0.heap.size w2 (.slice none 0 0) b.kids
      rw [hb]
      exact World.ownsRow_nil _ _ _ _
    · have e1 : (cs.take k ++ [b.c (.slice none 0 0)] ++ cs.drop k)[j]? = cs[j - 1]? := by
        rw [List.getElem?_append_right (by simp; omega), List.getElem?_drop]
        congr 1
        simp only [List.length_append, List.length_take, List.length_cons, List.length_nil]
        omega
      have e2 : (t.brs.take k ++ [b] ++ t.brs.drop k)[j]? = t.brs[j - 1]? := by
        rw [List.getElem?_append_right (by simp; omega), List.getElem?_drop]
        congr 1
        simp only [List.length_append, List.length_take, List.length_cons, List.length_nil]
        omega
      rw [List.getElem?_eq_getElem (by omega), List.getElem?_eq_getElem (by omega)] at e1 e2
      rw [Option.some.inj e1, Option.some.inj e2]
      exact key (j - 1) (by omega) (by omega)
  · obtain ⟨h1, h2⟩ := List.pairwise_cons.1 h.apart
    have hmap : (cs.take k ++ [b.c (.slice none 0 0)] ++ cs.drop k).map BrC.kv = (cs.map BrC.kv).take k ++ [.slice none 0 0] ++ (cs.map BrC.kv).drop k := by
      simp [List.map_take, List.map_drop, Br.c]
    rw [hmap]
    have hsplit : (cs.map BrC.kv) = (cs.map BrC.kv).take k ++ (cs.map BrC.kv).drop k := (List.take_append_drop _ _).symm
    have hnone : ∀ g, Value.ownBlock (.slice none 0 0) ≠ some g := fun g e => by simp [Value.ownBlock] at e
    refine List.pairwise_cons.2 ⟨fun v hv g hg' => ?_, ?_⟩
    · simp only [List.mem_append, List.mem_singleton] at hv
      rcases hv with (hv | hv) | hv
      · exact h1 v (List.mem_of_mem_take hv) g hg'
      · rw [hv]; exact hnone g
      · exact h1 v (List.mem_of_mem_drop hv) g hg'
    · rw [hsplit] at h2
      obtain ⟨p1, p2, p3⟩ := List.pairwise_append.1 h2
      refine List.pairwise_append.2 ⟨List.pairwise_append.2 ⟨p1, List.pairwise_singleton _ _, fun a _ c hc g _ => ?_⟩, p2, fun a ha c hc g hga => ?_⟩
      · rw [List.mem_singleton.1 hc]; exact hnone g
      · rcases List.mem_append.1 ha with ha | ha
        · exact p3 a ha c hc g hga
        · rw [List.mem_singleton.1 ha] at hga
          exact absurd hga (hnone g)
end
end Go.Proofs.YtafncfomiolmgaaGreatDoor

/- The steps of the editor's create: the new branch is inserted; its parent gets a child; the depth is looked at. The conditions: the tree is right but for its depth; the library's own variables hold what they must. -/
namespace Go.Proofs.YtafncfomiolmgaaGreatDoor
open Go.RowKit

section
variable {w0 : World} {E : Nat} {bv : Value} {t : Tr} {o : Opn}
theorem createIns {W0 : World} (hS : SoundM t) (h : EdB w0.heap.size E bv t W0) (hG : Grew w0 W0) (W : World) (hW : Grew W0 W) (hv : W.heap[W0.heap.size]? = some (.cells ((newBr o).c (.slice none 0 0)).cells.toArray 53 (0, 0))) :
    Calls Tryz.prog 91 #[bv, .int .i64 (posF t.brs o.unit), .slice (some ⟨W0.heap.size, 0, none⟩) 1 1] W fun e w7 => ∃ A7 n7 c7, e = .returned (.slice A7 n7 c7) ∧ (∃ bv', EdB w0.heap.size E bv' ⟨t.roots, insB (newBr o) t.brs⟩ (w7.setCell ⟨E, 1, none⟩ (.slice A7 n7 c7))) ∧ Grew w0 (w7.setCell ⟨E, 1, none⟩ (.slice A7 n7 c7)) ∧ w7.frozen? ⟨E, 1, none⟩ = false ∧ w7.cell? ⟨E, 1, none⟩ = some bv ∧ ∀ p x, W.cell? p = some x → some p.block ≠ bv.ownBlock → w7.cell? p = some x := by
  obtain ⟨rv, cs, hE⟩ := h
  have hT := tok_of hS
  have hlen := hE.len
  have hpl := pos_le t.brs o.unit
  have hEW := hE.grew hW
  refine (insertB w0 cs ((newBr o).c (.slice none 0 0)) (posF t.brs o.unit) W0.heap.size bv W (by rw [hlen]; exact hEW.brs) (hG.trans hW) hE.one rfl (by omega) (by rw [hlen]; exact hT.len) hv (fun e => by have := (hE.brs.lt _ e.symm).2; omega)).mono ?_
  rintro e w7 ⟨v7, rfl, own7, hgr7, -⟩
  obtain ⟨A7, c7, rfl⟩ := own_slice own7
  obtain ⟨h1, h2, h3, h4⟩ := insertDone (t1 := ⟨t.roots, insB (newBr o) t.brs⟩) hEW (by omega) rfl (by rw [insB_at (newBr o) t.brs]; rfl) (hG.trans hW) hgr7 own7
  exact ⟨A7, _, c7, rfl, h1, h2, h3, h4, fun p x hp hne => hgr7.cell hp hne⟩
theorem createPut {bv' : Value} {W : World} (hS : SoundM t) (hc : CanCreate t o) (h8 : EdB w0.heap.size E bv' ⟨t.roots, insB (newBr o) t.brs⟩ W) (hG8 : Grew w0 W) :
    Calls Tryz.prog 92 #[.pointer (some ⟨E, 0, none⟩), .int .i64 o.unit, .int .i64 o.parent, .int .i64 o.before] W fun e w' => e = .returned (.tuple #[]) ∧ EdB w0.heap.size E bv' (createT t o) w' ∧ Grew w0 w' := by
  obtain ⟨c1, c2, -⟩ := create_childs hS hc
  obtain ⟨p1, p2⟩ := create_put hS hc
  have hT := tok_of hS
  have hl : (insB (newBr o) t.brs).length ≤ 1000000 := by
    have := hc.room
    rw [len_insB]
    omega
  have := edPut h8 hG8 (create_asc hS hc) hl (p := o.parent) c2 o.unit o.before (by rw [c1]; exact p1) (by rw [c1]; exact p2) (by rw [c1]; exact hT.kids _)
  rw [create_eq hS hc] at this
  exact this
open Classical in
theorem createLimit {bv' : Value} {W : World} (hS : SoundM t) (hc : CanCreate t o) (h9 : EdB w0.heap.size E bv' (createT t o) W) (hEnv : Env W) :
    Calls Tryz.prog 93 #[.pointer (some ⟨E, 0, none⟩)] W fun e w' => e = .returned (.int .i64 (if RightT (createT t o) then 0 else 15)) ∧ Grew W w' := edLimit h9 (tok_of (create_sound hS hc)) hEnv
end
end Go.Proofs.YtafncfomiolmgaaGreatDoor

/- Moving a unit, step by step, plainly. No condition. -/
namespace Go.Proofs.YtafncfomiolmgaaGreatDoor
open Go.RowKit

/-- The unit is taken from its parent. -/
def takeM (t : Tr) (u : Br) : Tr := setK t u.parent (withoutF u.id (childs t u.parent))
/-- And it names its new parent. -/
def nameM (t : Tr) (u : Br) (p : Int) : Tr := setU (takeM t u) u.id fun b => { b with parent := p }
theorem setU_childs (t : Tr) (n p q : Int) : childs (setU t n fun b => { b with parent := p }) q = childs t q := by
  unfold childs
  by_cases h0 : q = 0
  · rw [if_pos h0, if_pos h0]
    rfl
  · rw [if_neg h0, if_neg h0]
    have e : brFind (setU t n fun b => { b with parent := p }).brs q = (brFind t.brs q).map fun b => if b.id = n then { b with parent := p } else b := find_map _ (fun b => by split <;> rfl) q
    rw [e]
    cases brFind t.brs q with
    | none => rfl
    | some b =>
      show (if b.id = n then { b with parent := p } else b).kids = b.kids
      split <;> rfl
theorem setU_setK (t : Tr) (n p q : Int) (ks : List Int) : setK (setU t n fun b => { b with parent := p }) q ks = setU (setK t q ks) n fun b => { b with parent := p } := by
  by_cases h0 : q = 0
  · unfold setK setU
    rw [if_pos h0, if_pos h0]
  · unfold setK setU
    rw [if_neg h0, if_neg h0]
    show Tr.mk _ _ = Tr.mk _ _
    rw [List.map_map, List.map_map]
    congr 1
    refine List.map_congr_left fun b _ => ?_
    obtain ⟨i, pa, lv, ti, mk, kd⟩ := b
    dsimp only [Function.comp_apply]
    by_cases h1 : i = n
    · subst h1
      by_cases h2 : i = q
      · subst h2
        simp
      · simp [h2]
    · by_cases h2 : i = q
      · subst h2
        simp [h1]
      · simp [h1, h2]
section
variable {t : Tr} {o : Opn} {u : Br}
theorem move_ids (q : Int) : (∃ b ∈ (nameM t u o.parent).brs, b.id = q) ↔ ∃ b ∈ t.brs, b.id = q := by
  rw [← setK_ids t u.parent (withoutF u.id (childs t u.parent)) q]
  unfold nameM setU takeM
  constructor
  · rintro ⟨b, hb, e⟩
    obtain ⟨c, hm, rfl⟩ := List.mem_map.1 hb
    refine ⟨c, hm, ?_⟩
    rw [← e]
    split <;> rfl
  · rintro ⟨b, hb, e⟩
    refine ⟨_, List.mem_map.2 ⟨b, hb, rfl⟩, ?_⟩
    rw [← e]
    split <;> rfl
theorem move_eq (hc : CanMove t o u) : setK (nameM t u o.parent) o.parent (putF o.unit o.before (childs (nameM t u o.parent) o.parent)) = moveT t o u := by
  unfold nameM moveT takeM
  rw [setU_setK, setU_childs, hc.id]
theorem move_asc (h : SoundM t) : idsAsc (nameM t u o.parent).brs := by
  have h1 : idsAsc (takeM t u).brs := by
    unfold takeM
    rw [setK_brs]
    split
    · exact h.asc
    · exact List.Pairwise.map _ (fun a b hab => by unfold kidG; (repeat' split) <;> exact hab) h.asc
  exact List.Pairwise.map _ (fun a b hab => by (repeat' split) <;> exact hab) h1
theorem move_len : (nameM t u o.parent).brs.length = t.brs.length := by
  unfold nameM setU takeM
  rw [List.length_map, setK_brs]
  split
  · rfl
  · rw [List.length_map]
theorem move_put (h : SoundM t) (hc : CanMove t o u) (hp : u.parent = 0 ∨ ∃ b ∈ t.brs, b.id = u.parent) :
    (o.before = 0 → (0 : Int) ∉ childs (nameM t u o.parent) o.parent) ∧ (o.before ≠ 0 → o.before ∈ childs (nameM t u o.parent) o.parent) ∧ (childs (nameM t u o.parent) o.parent).length ≤ 1000000 := by
  have hT := tok_of h
  unfold nameM
  rw [setU_childs]
  unfold takeM
  rw [setK_childs _ _ _ hp]
  have h0 : (0 : Int) ∉ childs t o.parent := fun hm => by
    obtain ⟨b, hb, _, e⟩ := (childs_mem h (stands_there hc.stands)).1 hm
    exact unit_pos (h.units b hb) e
  by_cases he : o.parent = u.parent
  · rw [if_pos he, ← he, hc.id]
    refine ⟨fun _ hm => h0 (List.mem_filter.1 hm).1, hc.before, Nat.le_trans (List.length_filter_le _ _) (hT.kids _)⟩
  · rw [if_neg he]
    exact ⟨fun _ => h0, fun hb => (List.mem_filter.1 (hc.before hb)).1, hT.kids _⟩
end
open Classical in
/-- What move returns. -/
noncomputable def resM (t : Tr) (o : Opn) (u : Br) : Int := if faultM t o ≠ 0 then faultM t o else if RightT (moveT t o u) then 0 else 15
open Classical in
theorem resM_of {t : Tr} {o : Opn} {u : Br} {n : Int} (h : faultM t o = n) (hn : n ≠ 0) : resM t o u = n := by
  unfold resM
  rw [h, if_pos hn]
theorem resM_2 {t : Tr} {o : Opn} {u : Br} (h : brFind t.brs o.unit = some u) (h2 : o.parent ≠ 0 ∧ (brFind t.brs o.parent).isSome = false) : resM t o u = 7 :=
  resM_of (by unfold faultM; rw [h]; simp only []; rw [if_pos h2]) (by decide)
theorem resM_3 {t : Tr} {o : Opn} {u : Br} (h : brFind t.brs o.unit = some u) (h2 : ¬ (o.parent ≠ 0 ∧ (brFind t.brs o.parent).isSome = false)) (h3 : o.parent ∈ belowT t o.unit) : resM t o u = 17 :=
  resM_of (by unfold faultM; rw [h]; simp only []; rw [if_neg h2, if_pos h3]) (by decide)
theorem resM_4 {t : Tr} {o : Opn} {u : Br} (h : brFind t.brs o.unit = some u) (h2 : ¬ (o.parent ≠ 0 ∧ (brFind t.brs o.parent).isSome = false)) (h3 : o.parent ∉ belowT t o.unit) (h4 : standsB t o.parent u.level = false) : resM t o u = 18 :=
  resM_of (by unfold faultM; rw [h]; simp only []; rw [if_neg h2, if_neg h3, if_pos h4]) (by decide)
theorem resM_5 {t : Tr} {o : Opn} {u : Br} (h : brFind t.brs o.unit = some u) (h2 : ¬ (o.parent ≠ 0 ∧ (brFind t.brs o.parent).isSome = false)) (h3 : o.parent ∉ belowT t o.unit) (h4 : standsB t o.parent u.level = true) (h5 : o.before ≠ 0 ∧ (o.before = o.unit ∨ o.before ∉ childs t o.parent)) : resM t o u = 7 :=
  resM_of (by unfold faultM; rw [h]; simp only []; rw [if_neg h2, if_neg h3, if_neg (by simp [h4]), if_pos h5]) (by decide)
open Classical in
theorem resM_6 {t : Tr} {o : Opn} {u : Br} (h : brFind t.brs o.unit = some u) (h2 : ¬ (o.parent ≠ 0 ∧ (brFind t.brs o.parent).isSome = false)) (h3 : o.parent ∉ belowT t o.unit) (h4 : standsB t o.parent u.level = true) (h5 : ¬ (o.before ≠ 0 ∧ (o.before = o.unit ∨ o.before ∉ childs t o.parent))) : faultM t o = 0 ∧ resM t o u = if RightT (moveT t o u) then 0 else 15 := by
  have e : faultM t o = 0 := by unfold faultM; rw [h]; simp only []; rw [if_neg h2, if_neg h3, if_neg (by simp [h4]), if_neg h5]
  refine ⟨e, ?_⟩
  unfold resM
  rw [e, if_neg (fun h => h rfl)]
end Go.Proofs.YtafncfomiolmgaaGreatDoor

/- slices.Compact at numbers, on a row of the call's own. No condition but the sizes that a slice can have. -/
namespace Go.Proofs.YtafncfomiolmgaaGreatDoor
open Go.RowKit Go.Sort

theorem comp_len (l : List Int) : (Lib.compact l).length ≤ l.length := by
  unfold Lib.compact Lib.compactUpTo
  rw [List.length_map]
  have := List.length_filter_le (Lib.keeps l.toArray) (List.range l.length)
  simpa using this
theorem compact_own (l : List Int) (w0 : World) (e : TypeId) (v : Value) (w : World) (hown : w.ownsRow w0.heap.size e 1 v l.length (l.flatMap oneI)) (hg : Grew w0 w) (hl : l.length ≤ 1000000) (hcl : (Lib.compact l).length ≤ l.length) :
    Calls Tryz.prog 66 #[v] w fun en w' => ∃ v', en = .returned v' ∧ SlI w' v' (Lib.compact l) ∧ Grew w0 w' := by
  rcases Nat.eq_zero_or_pos l.length with h0 | h0
  · obtain rfl : l = [] := List.eq_nil_of_length_eq_zero h0
    have hv : ∃ A c, v = .slice A 0 c := by
      rcases hown.2 with ⟨rfl, _⟩ | ⟨g, cap, cur, rfl, _⟩
      · exact ⟨_, _, rfl⟩
      · exact ⟨_, _, rfl⟩
    obtain ⟨A, c, rfl⟩ := hv
    refine (Tryz.slices_Compact_int_empty A c w).mono ?_
    rintro en w' ⟨rfl, rfl⟩
    have hc0 : Lib.compact ([] : List Int) = [] := List.eq_nil_of_length_eq_zero (by simpa using hcl)
    refine ⟨_, rfl, ?_, hg⟩
    rw [hc0]
    exact Rd.of_own hown
  · obtain ⟨g, cap, rfl, hbg, hlt, hcap⟩ := own_form hown h0
    have hH := holdsI_of_own hown
    refine (Tryz.slices_Compact_int g 0 cap l w hH (by omega) hcap).mono ?_
    rintro en w' ⟨rfl, n, rfl⟩
    have hfl : (Lib.compact l ++ List.replicate (l.length - (Lib.compact l).length) (0 : Int)).length = l.length := by simp; omega
    have hh2 := holds_putRow (Value.int .i64) (Sort.ahead w n) g 0 l.toArray (Lib.compact l ++ List.replicate (l.length - (Lib.compact l).length) (0 : Int)).toArray (holds_ahead _ _ _ _ _ _ hH) (by simpa using hfl)
    have hs := slI_of_holds hh2 (by simp; omega) (by rw [hfl]; exact hcap) (own_max hown)
    refine ⟨_, rfl, ?_, grew_putI hbg hg _ _⟩
    have := Rd.take (k := 1) (f := oneI) (fun _ => rfl) (by omega) (show Rd _ 1 _ (_) from hs) (Lib.compact l).length (by simp)
    rw [List.take_left] at this
    exact this
end Go.Proofs.YtafncfomiolmgaaGreatDoor

/- A set of numbers that is kept in a map: what it has, and what a range over it collects. No condition. -/
namespace Go.Proofs.YtafncfomiolmgaaGreatDoor
open Go.RowKit Go.Maps

/-- The set of some numbers, as a map to true. -/
def setInts (ks : List Int) : DataW Unit := setOf (.lit (.bool true)) (ks.map fun n => .int .i64 n)
theorem has_setInts (ks : List Int) (n : Int) : has (setInts ks) (.int .i64 n) = true ↔ n ∈ ks := by
  unfold setInts
  rw [has_setOf _ _ _ (fun x hx => by
    obtain ⟨m, _, rfl⟩ := List.mem_map.1 hx
    trivial), List.any_eq_true]
  constructor
  · rintro ⟨x, hx, hs⟩
    obtain ⟨m, hm, rfl⟩ := List.mem_map.1 hx
    simp [Lit.sameKey] at hs
    exact hs ▸ hm
  · intro h
    exact ⟨_, List.mem_map.2 ⟨n, h, rfl⟩, by simp [Lit.sameKey]⟩
/-- What has come of a range over a map keyed by numbers. -/
def CollI (D0 : DataW Unit) (left : Lit → Bool) (ks : List Int) : Prop := ks.Nodup ∧ ∀ x, x ∈ ks ↔ (has D0 (.int .i64 x) = true ∧ left (.int .i64 x) = false)
theorem CollI.start (D0 : DataW Unit) : CollI D0 (has D0) [] := ⟨List.nodup_nil, fun x => by cases has D0 (.int .i64 x) <;> simp⟩
theorem CollI.step {D0 : DataW Unit} {left : Lit → Bool} {ks : List Int} (h : CollI D0 left ks) {x : Int} {y : DataW Unit} (hlk : left (.int .i64 x) = true) (hat : ∀ zd, D0.atKey (.int .i64 x) zd = y) : CollI D0 (fun z => left z && !z.sameKey (.int .i64 x)) (ks ++ [x]) := by
  have hhas : has D0 (.int .i64 x) = true := has_true_of_atKey hat
  have hnew : x ∉ ks := fun hx => by have := ((h.2 x).1 hx).2; rw [hlk] at this; cases this
  refine ⟨List.nodup_append.2 ⟨h.1, by simp, fun a ha b hb => by simp at hb; subst hb; exact fun e => hnew (e ▸ ha)⟩, fun y => ?_⟩
  by_cases hy : y = x
  · subst hy; simp [hhas, Lit.sameKey]
  · simp [h.2 y, hy, Lit.sameKey]
theorem CollI.done {ks0 : List Int} {left : Lit → Bool} {ks : List Int} (h : CollI (setInts ks0) left ks) (hl : ∀ kl, left kl = false) : ks.Nodup ∧ ∀ n, n ∈ ks ↔ n ∈ ks0 :=
  ⟨h.1, fun n => by rw [h.2 n, has_setInts]; simp [hl]⟩
theorem row_ne_map {P : Program} {k : TypeId} {R : Value → Option (DataW Unit × List MemPlace)} {w : World} {b n : Nat} {D : DataW Unit} {base : Nat} {e : TypeId} {size : Nat} {v : Value} {m : Nat} {xs : List Value}
    (h : w.ownsRow base e size v m xs) (hm : w.ownsMap P k R b n D) : some b ≠ v.ownBlock := by
  obtain ⟨es, clock, hit, _⟩ := hm
  rcases h.2 with ⟨rfl, _⟩ | ⟨g, cap, cur, rfl, _, hb, _⟩
  · simp [Value.ownBlock]
  · intro e1
    have : b = g := by simpa [Value.ownBlock] using e1
    subst this
    rw [hit] at hb
    cases hb
end Go.Proofs.YtafncfomiolmgaaGreatDoor

/- tree.path on a right tree, walked. The condition: the lists are short. -/
namespace Go.Proofs.YtafncfomiolmgaaGreatDoor
open Go.RowKit

theorem find_mem {l : List Br} {id : Int} {b : Br} (h : brFind l id = some b) : b ∈ l ∧ b.id = id := by
  refine ⟨List.mem_of_find?_eq_some h, ?_⟩
  have := List.find?_some h
  simpa using this
/-- Where the way stands. -/
def Way (l : List Br) (rest : List Int) (z : Int) : Prop := (rest = [] ∧ z = 0) ∨ ∃ y n, y ∈ l ∧ z = y.id ∧ rest = upIds l n y ∧ (deep l n y).isSome = true
theorem Way.step {l : List Br} (hP : ∀ i (h : i < l.length), BrPlaced l l[i]) {y : Br} {n : Nat} (hy : y ∈ l) (hd : (deep l n y).isSome = true) : ∃ rest, upIds l n y = y.id :: rest ∧ Way l rest y.parent := by
  by_cases h0 : y.parent = 0
  · exact ⟨[], upIds_top l n y h0, .inl ⟨rfl, h0⟩⟩
  · cases n with
    | zero => rw [deep_cycle l y h0] at hd; cases hd
    | succ n =>
      obtain ⟨j, hj, rfl⟩ := List.mem_iff_getElem.1 hy
      have := hP j hj
      unfold BrPlaced at this
      rw [if_neg h0] at this
      obtain ⟨p, hp, _⟩ := this
      obtain ⟨hpm, hpi⟩ := find_mem hp
      refine ⟨upIds l n p, upIds_up l n _ p h0 hp, .inr ⟨p, n, hpm, hpi.symm, rfl, ?_⟩⟩
      rw [deep_up l n _ p h0 hp] at hd
      simpa using hd
end Go.Proofs.YtafncfomiolmgaaGreatDoor

/- tree.walk: what its recursive closure does, by induction on how far down the tree goes. The conditions: the tree is right; the rounds write one box and the row behind it alone. -/
namespace Go.Proofs.YtafncfomiolmgaaGreatDoor
open Go.RowKit Go.Shelf

attribute [local go_sem] Oper.semAt_some

theorem room_free {F : Fence} (hd : F.depth = none) (k : Nat) : F.room k := fun d h => by rw [hd] at h; cases h
theorem roundFree {F : Fence} (hd : F.depth = none) {m m' : Nat} {P : Program} {l : Nat} {f : FuncId} {tmps : Array Value} {assign body : Code} {w : World} {R : Ending → World → Prop}
    (h : RoundIn F m P l f tmps assign body w R) : RoundIn F m' P l f tmps assign body w R := ⟨h.1, fun c cs _ => h.2 c cs (room_free hd _)⟩
theorem yieldFree {F : Fence} (hd : F.depth = none) {m : Nat} (m' : Nat) {P : Program} {l : Nat} {args : Array Value} {W : World} {R : Ending → World → Prop} (h : YieldAt F m P l args W R) : YieldAt F m' P l args W R := by
  obtain ⟨fn, tmps, assign, body, hy, hR⟩ := h
  exact ⟨fn, tmps, assign, body, hy, roundFree hd hR⟩

/-- All blocks of cells stay but block B and the row to which it leads. -/
structure KpO (B : Nat) (W W' : World) : Prop where
  size : W.heap.size ≤ W'.heap.size
  block : ∀ k o, W.heap[k]? = some o → o.isCells = true → k ≠ B → (∀ v, W.cell? ⟨B, 0, none⟩ = some v → v.ownBlock ≠ some k) → W'.heap[k]? = some o
  row : ∀ v', W'.cell? ⟨B, 0, none⟩ = some v' → (∃ v, W.cell? ⟨B, 0, none⟩ = some v ∧ v.ownBlock = v'.ownBlock) ∨ ∀ b, v'.ownBlock = some b → W.heap.size ≤ b ∧ b < W'.heap.size
/-- Block B is there, and what it leads to is there. -/
def OutIn (B : Nat) (W : World) : Prop := B < W.heap.size ∧ ∀ v, W.cell? ⟨B, 0, none⟩ = some v → ∀ b, v.ownBlock = some b → b < W.heap.size
/-- Block k holds o, and is neither block B nor the row to which B leads. -/
def Prot (B : Nat) (W : World) (k : Nat) (o : Obj) : Prop := W.heap[k]? = some o ∧ o.isCells = true ∧ k ≠ B ∧ ∀ v, W.cell? ⟨B, 0, none⟩ = some v → v.ownBlock ≠ some k
def KpB (n₀ B : Nat) (W W' : World) : Prop := Below n₀ W W' ∧ KpO B W W'
section
variable {n₀ B k : Nat} {W W' W2 : World} {o : Obj}
theorem KpO.refl (B : Nat) (W : World) : KpO B W W := ⟨Nat.le_refl _, fun _ _ h _ _ _ => h, fun v' h => .inl ⟨v', h, rfl⟩⟩
theorem KpO.trans (h : KpO B W W') (j : KpO B W' W2) : KpO B W W2 := by
  refine ⟨Nat.le_trans h.size j.size, fun k o ho hc hne hr => ?_, fun v' hv' => ?_⟩
  · refine j.block k o (h.block k o ho hc hne hr) hc hne fun v' hv' hb => ?_
    have hk := (Array.getElem?_eq_some_iff.1 ho).1
    rcases h.row v' hv' with ⟨v, hv, e⟩ | h2
    · exact hr v hv (by rw [e]; exact hb)
    · have := (h2 k hb).1
      omega
  · rcases j.row v' hv' with ⟨v, hv, e⟩ | h2
    · rcases h.row v hv with ⟨u, hu, e2⟩ | h3
      · exact .inl ⟨u, hu, e2.trans e⟩
      · refine .inr fun b hb => ?_
        have h4 := h3 b (by rw [e]; exact hb)
        have := j.size
        omega
    · refine .inr fun b hb => ?_
      have h4 := h2 b hb
      have := h.size
      omega
theorem KpO.grew (hB : B < W.heap.size) (h : Grew W W') : KpO B W W' :=
  ⟨h.size, fun k o ho _ _ _ => by rw [h.block k (Array.getElem?_eq_some_iff.1 ho).1]; exact ho, fun v' hv' => .inl ⟨v', by rw [← h.cell hB]; exact hv', rfl⟩⟩
theorem OutIn.kp (h : OutIn B W) (j : KpO B W W') : OutIn B W' := by
  refine ⟨Nat.lt_of_lt_of_le h.1 j.size, fun v' hv' b hb => ?_⟩
  rcases j.row v' hv' with ⟨v, hv, e⟩ | h2
  · exact Nat.lt_of_lt_of_le (h.2 v hv b (by rw [e]; exact hb)) j.size
  · exact (h2 b hb).2
theorem Prot.kp (h : Prot B W k o) (j : KpO B W W') : Prot B W' k o := by
  obtain ⟨h1, h2, h3, h4⟩ := h
  refine ⟨j.block k o h1 h2 h3 h4, h2, h3, fun v' hv' hb => ?_⟩
  have hk := (Array.getElem?_eq_some_iff.1 h1).1
  rcases j.row v' hv' with ⟨v, hv, e⟩ | h5
  · exact h4 v hv (by rw [e]; exact hb)
  · have := (h5 k hb).1
    omega
theorem Prot.new (h : OutIn B W) (hc : o.isCells = true) : Prot B (W.alloc o) W.heap.size o := by
  refine ⟨World.alloc_heap_new W o, hc, by have := h.1; omega, fun v hv hb => ?_⟩
  have hv2 : W.cell? ⟨B, 0, none⟩ = some v := by rw [← hv]; exact (World.cell?_alloc_lt _ _ _ h.1).symm
  have := h.2 v hv2 _ hb
  omega
theorem Prot.cell {vs : Array Value} {t : TypeId} (h : Prot B W k (.cells vs t (0, 0))) (j : Nat) (v : Value) (hj : vs[j]? = some v) : W.cell? ⟨k, j, none⟩ = some v := by
  simp [World.cell?, h.1, hj]
theorem KpB.refl (n₀ B : Nat) (W : World) : KpB n₀ B W W := ⟨Below.refl _ _, KpO.refl _ _⟩
theorem KpB.trans (h : KpB n₀ B W W') (j : KpB n₀ B W' W2) : KpB n₀ B W W2 := ⟨h.1.trans j.1, h.2.trans j.2⟩
theorem KpB.grew (hB : B < W.heap.size) (hn : n₀ ≤ W.heap.size) (h : Grew W W') : KpB n₀ B W W' := ⟨h.below.mono hn, KpO.grew hB h⟩
theorem kpB_put {w : World} (hn : n₀ ≤ w.heap.size) (hB : B < w.heap.size) (W : World) (l : Nat) (o o' : Obj) (hl : w.heap.size ≤ l) (h : W.heap[l]? = some o) (hc : o.isCells = false) (hw : o.isWalk = false) : KpB n₀ B W (W.putObj l o') := by
  have hg := grownBy_putObj' W l o'
  refine ⟨belowK_b hn W l o o' hl h hc hw, hg.size, fun k o2 ho hc2 _ _ => ?_, fun v' hv' => .inl ⟨v', ?_, rfl⟩⟩
  · rw [hg.block k (Array.getElem?_eq_some_iff.1 ho).1 (fun e => ?_)]
    · exact ho
    · injection e with e
      subst e
      rw [h] at ho
      injection ho with ho
      rw [← ho, hc] at hc2
      cases hc2
  · have hBW : B < W.heap.size := by have := (Array.getElem?_eq_some_iff.1 h).1; omega
    rw [← hv']
    exact (World.cell?_of_block (hg.block B hBW (fun e => by injection e with e; omega))).symm
end
/-- slices.IndexFunc at numbers, the function that is handed over doing whatever it does: R i holds behind i rounds; St holds where it has said yes. -/
theorem idxEff (l : List Int) (g : Nat) (lb : Array Value) (eg : ∀ args w, (callFunc g args).run Tryz.prog w = .ok (.enter g args) w) (v : Value) (w0 w : World) (hv : SlI w0 v l) (R : Nat → World → Prop) (St : World → Prop) (hR0 : R 0 w) (hRg : ∀ i W, R i W → Grew w0 W)
    (hp : ∀ i (hi : i < l.length) W, R i W → Calls Tryz.prog g (#[(.int .i64 l[i])] ++ lb) W fun e w' => (e = .returned (.bool false) ∧ R (i + 1) w') ∨ (e = .returned (.bool true) ∧ St w')) :
    Calls Tryz.prog 75 #[v, .func (.func g) #[] lb] w fun e w' => (e = .returned (.int .i64 (-1)) ∧ R l.length w') ∨ (∃ i : Nat, e = .returned (.int .i64 (i : Int)) ∧ St w') := by
  obtain ⟨A, c, rfl, hlc, hc, hr⟩ := hv.open_
  unfold maxLen at hc
  have HR := Lib.hid hr
  have HP := Lib.hid hp
  have HG := Lib.hid hRg
  have HR0 := Lib.hid hR0
  clear hr hp hv hRg hR0
  go_enter Tryz.func75, Tryz.ntmps75
  go_wp2
  go_loopg [5, 8] l.length (fun gg _ s8 wr => ∃ kk : Nat, kk ≤ l.length ∧ l.length - kk ≤ gg ∧ s8 = .int .i64 kk ∧ Aside (R kk wr))
  case atStart => exact ⟨0, Nat.zero_le _, by omega, rfl, HR0.out⟩
  case round =>
    obtain ⟨kk, hkk, hg, rfl, BW⟩ := hrel
    by_cases hlt : kk < l.length
    · obtain ⟨b, off, rfl, hb, hcell⟩ := HR.out (by omega)
      obtain c0 := hcell wr (HG.out kk wr BW.out) kk hlt
      have hcall := HP.out kk hlt wr BW.out
      have hltz : (kk : Int) < (l.length : Int) := by omega
      clear hcell
      generalize l[kk] = y at c0 hcall
      go_wp2_with (go_at_fn g; refine hcall.mono ?_; rintro e w' (⟨rfl, hb'⟩ | ⟨rfl, hb'⟩))
      · go_roundg (l.length - (kk + 1))
        case measure => omega
        case rel => exact ⟨kk + 1, by omega, by omega, by go_num, (show Aside _ from hb')⟩
      · go_ret
        exact .inr ⟨kk, rfl, hb'⟩
    · have hltz : ¬ (kk : Int) < (l.length : Int) := by omega
      obtain rfl : kk = l.length := by omega
      go_wp2
      go_ret
      exact .inl ⟨rfl, BW.out⟩
theorem containsEff (l : List Int) (g : Nat) (lb : Array Value) (eg : ∀ args w, (callFunc g args).run Tryz.prog w = .ok (.enter g args) w) (v : Value) (w0 w : World) (hv : SlI w0 v l) (R : Nat → World → Prop) (St : World → Prop) (hR0 : R 0 w) (hRg : ∀ i W, R i W → Grew w0 W)
    (hp : ∀ i (hi : i < l.length) W, R i W → Calls Tryz.prog g (#[(.int .i64 l[i])] ++ lb) W fun e w' => (e = .returned (.bool false) ∧ R (i + 1) w') ∨ (e = .returned (.bool true) ∧ St w')) :
    Calls Tryz.prog 121 #[v, .func (.func g) #[] lb] w fun e w' => (e = .returned (.bool false) ∧ R l.length w') ∨ (e = .returned (.bool true) ∧ St w') := by
  have K := Lib.hid (idxEff l g lb eg v w0 w hv R St hR0 hRg hp)
  clear hv hR0 hRg hp
  go_enter Tryz.func121, Tryz.ntmps121
  go_wp2_with fail
  refine K.out.mono ?_
  rintro e w1 (⟨rfl, h⟩ | ⟨i, rfl, h⟩)
  · dsimp only
    go_wp2
    go_ret
    exact .inl ⟨rfl, h⟩
  · have h0 : (0 : Int) ≤ (i : Int) := by omega
    dsimp only
    go_wp2
    go_ret
    exact .inr ⟨rfl, h⟩
end Go.Proofs.YtafncfomiolmgaaGreatDoor
