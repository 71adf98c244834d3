/- Lemmas on what the functions of the program and of the library compute: Ed2, Es1, Del3, Es2, Es3, Bk1, RT1, TM1, PlainTg. The conditions stand at each. -/
import Derived.Test.YtafncfomiolmgaaGreatDoorQ10
import Derived.Test.YtafncfomiolmgaaGreatDoorQ7
import Derived.Test.YtafncfomiolmgaaGreatDoorQ4
import Derived.Test.YtafncfomiolmgaaGreatDoorQ2
import Derived.Test.YtafncfomiolmgaaGreatDoorQ8
import Derived.Test.YtafncfomiolmgaaGreatDoorQ1
import Derived.Deep.RegionHeld3
/- Where the editor's lists of children lie, and what a store there leads to; a store into a field of a unit. No condition. -/
namespace Go.Proofs.YtafncfomiolmgaaGreatDoor
open Go.RowKit

/-- The editor in block E holds the tree t; its branches are the slice bv. -/
def EdB (base E : Nat) (bv : Value) (t : Tr) (w : World) : Prop := ∃ rv cs, Ed base E rv bv cs t w
theorem EdB.grew {base E : Nat} {bv : Value} {t : Tr} {w w' : World} (h : EdB base E bv t w) (hg : Grew w w') : EdB base E bv t w' := by
  obtain ⟨rv, cs, h⟩ := h
  exact ⟨rv, cs, h.grew hg⟩
theorem map_set {l : List Br} {i : Nat} (hi : i < l.length) (hasc : idsAsc l) (f : Br → Br) : (l.map fun b => if b.id = l[i].id then f b else b) = l.set i (f l[i]) := by
  apply List.ext_getElem (by simp)
  intro j hj hj'
  rw [List.length_map] at hj
  rw [List.getElem_map]
  by_cases e : j = i
  · subst e
    rw [if_pos rfl, List.getElem_set_self]
  · rw [List.getElem_set_ne (by omega), if_neg]
    intro he
    rcases Nat.lt_or_gt_of_ne e with hlt | hlt
    · have := List.pairwise_iff_getElem.1 hasc j i hj hi hlt
      omega
    · have := List.pairwise_iff_getElem.1 hasc i j hi hj hlt
      omega
/-- The list of the children of p lies behind the address a; what is stored there becomes the list. -/
structure KAt (base E : Nat) (bv : Value) (t : Tr) (p : Int) (a : Addr) (kv : Value) (w : World) : Prop where
  cell : w.cell? a = some kv
  frz : w.frozen? a = false
  lo : base ≤ a.block
  lt : a.block < w.heap.size
  own : OwnI base w kv (childs t p)
  off : kv.ownBlock ≠ some a.block
  back : ∀ w1 v' ks, w.grownBy w1 kv.ownBlock → OwnI base w1 v' ks → (v'.ownBlock = kv.ownBlock ∨ ∀ b, v'.ownBlock = some b → w.heap.size ≤ b) → EdB base E bv (setK t p ks) (w1.setCell a v')
section
variable {base E : Nat} {rv bv : Value} {cs : List BrC} {t : Tr} {w w' : World}
theorem KAt.grew {p : Int} {a : Addr} {kv : Value} (h : KAt base E bv t p a kv w) (hg : Grew w w') : KAt base E bv t p a kv w' where
  cell := (hg.cell h.lt).trans h.cell
  frz := (hg.frozen h.lt).trans h.frz
  lo := h.lo
  lt := Nat.lt_of_lt_of_le h.lt hg.size
  own := own_later h.own hg
  off := h.off
  back := fun w1 v' ks h1 h2 h3 => h.back w1 v' ks (grew_trans_grown hg h1) h2 (h3.imp_right fun k b hb => Nat.le_trans hg.size (k b hb))
theorem Ed.kat0 (h : Ed base E rv bv cs t w) : KAt base E bv t 0 ⟨E, 0, none⟩ rv w where
  cell := h.cells.1
  frz := h.cells.2.2.1
  lo := h.le
  lt := (Array.getElem?_eq_some_iff.1 h.box).1
  own := by
    unfold childs
    rw [if_pos rfl]
    exact h.roots
  off := own_ne h.roots h.box ne_IE
  back := fun w1 v' ks h1 h2 h3 => by
    unfold setK
    rw [if_pos rfl]
    exact ⟨v', cs, h.setRoots h1 h2 h3⟩
theorem brFind_at {l : List Br} (hasc : idsAsc l) {i : Nat} (hi : i < l.length) : brFind l l[i].id = some l[i] := find_byid hasc (List.getElem_mem hi)
theorem Ed.katB (h : Ed base E rv bv cs t w) (hasc : idsAsc t.brs) {i : Nat} (hi : i < t.brs.length) (h0 : t.brs[i].id ≠ 0) {B cap : Nat} (hbv : bv = .slice (some ⟨B, 0, none⟩) t.brs.length cap) :
    KAt base E bv t t.brs[i].id ⟨B, i * 6 + 5, none⟩ (cs[i]'(by have := h.len; omega)).kv w := by
  have hic : i < cs.length := by have := h.len; omega
  obtain ⟨e1, e2⟩ := h.each i hic hi
  subst hbv
  have hlt := (h.brs.lt B rfl)
  have hk := childs_of hasc (List.getElem_mem hi) h0
  have hcell := h.brs.cellAt (i * 6 + 5) (by omega)
  have hfl := flatMap_get BrC.cells 6 (fun _ => rfl) cs i 5 hic (by omega)
  refine ⟨?_, h.brs.frozenAt _, hlt.1, hlt.2, ?_, fun e => ?_, fun w1 v' ks h1 h2 h3 => ?_⟩
  · rw [hcell, hfl]
    rfl
  · rw [hk]
    exact e2
  · exact own_off e2 h.brs ne_IB B e rfl
  · obtain ⟨B', cap', hb, he⟩ := h.poke (j := 5) (c' := { cs[i] with kv := v' }) (b' := { t.brs[i] with kids := ks }) (u := v') hic hi (by omega) h1 (.inr rfl) rfl (by
      rw [e1]
      rfl) h2 h3
    injection hb with hb _ _
    injection hb with hb
    injection hb with hb _ _
    subst hb
    unfold setK
    rw [if_neg h0, map_set hi hasc]
    exact ⟨rv, _, he⟩
/-- A store into a field of a unit. -/
theorem Ed.field (h : Ed base E rv bv cs t w) (hasc : idsAsc t.brs) {i j : Nat} (hi : i < t.brs.length) (hj : j < 5) {B cap : Nat} (hbv : bv = .slice (some ⟨B, 0, none⟩) t.brs.length cap) (f : Br → Br) (u : Value)
    (hf : ∀ kv, ((f t.brs[i]).c kv).cells = (t.brs[i].c kv).cells.set j u) (hk : (f t.brs[i]).kids = t.brs[i].kids) : EdB base E bv (setU t t.brs[i].id f) (w.setCell ⟨B, i * 6 + j, none⟩ u) := by
  have hic : i < cs.length := by have := h.len; omega
  obtain ⟨e1, e2⟩ := h.each i hic hi
  obtain ⟨B', cap', hb, he⟩ := h.poke (j := j) (w1 := w) (row := none) (c' := (f t.brs[i]).c cs[i].kv) (b' := f t.brs[i]) (u := u) hic hi (by omega) (World.grownBy.refl _ _) (.inl rfl) (by
    rw [hf]
    rw [← e1]) rfl (by
    show OwnI base w cs[i].kv _
    rw [hk]
    exact e2) (.inl rfl)
  rw [hbv] at hb
  injection hb with hb _ _
  injection hb with hb
  injection hb with hb _ _
  subst hb
  unfold setU
  rw [map_set hi hasc]
  exact ⟨rv, _, he⟩
/-- The cells of a branch. -/
theorem Ed.at_ (h : Ed base E rv bv cs t w) {i : Nat} (hi : i < t.brs.length) {B cap : Nat} (hbv : bv = .slice (some ⟨B, 0, none⟩) t.brs.length cap) :
    w.cell? ⟨B, i * 6, none⟩ = some (.int .i64 t.brs[i].id) ∧ w.cell? ⟨B, i * 6 + 1, none⟩ = some (.int .i64 t.brs[i].parent) ∧ w.cell? ⟨B, i * 6 + 2, none⟩ = some (.int .i64 t.brs[i].level) ∧ w.cell? ⟨B, i * 6 + 3, none⟩ = some (.string t.brs[i].title) ∧ w.cell? ⟨B, i * 6 + 4, none⟩ = some (.string t.brs[i].mark) ∧
      (∃ kv, w.cell? ⟨B, i * 6 + 5, none⟩ = some kv ∧ SlI w kv t.brs[i].kids) ∧ (∀ j, w.frozen? ⟨B, j, none⟩ = false) ∧ base ≤ B ∧ B < w.heap.size := by
  have hic : i < cs.length := by have := h.len; omega
  obtain ⟨e1, e2⟩ := h.each i hic hi
  subst hbv
  have hlt := (h.brs.lt B rfl)
  have key : ∀ j, j < 6 → w.cell? ⟨B, i * 6 + j, none⟩ = cs[i].cells[j]? := fun j hj => by
    rw [h.brs.cellAt (i * 6 + j) (by omega), flatMap_get BrC.cells 6 (fun _ => rfl) cs i j hic hj]
  rw [e1] at key
  refine ⟨key 0 (by omega), key 1 (by omega), key 2 (by omega), key 3 (by omega), key 4 (by omega), ⟨cs[i].kv, ?_, Rd.of_own e2⟩, fun j => h.brs.frozenAt _, hlt.1, hlt.2⟩
  have := key 5 (by omega)
  exact this
end
end Go.Proofs.YtafncfomiolmgaaGreatDoor

/- The editor's find, branch and kids, walked. The conditions: the units ascend, and are not too many. -/
namespace Go.Proofs.YtafncfomiolmgaaGreatDoor
open Go.RowKit

theorem edFind1 (y : BrC) (id : Int) (w : World) : Calls Tryz.prog 132 #[y.agg, .int .i64 id] w fun e w' => e = .returned (.int .i64 (Lib.compareInt y.id id)) ∧ Grew w w' := by
  have h1 := Tryz.cmp_Compare_int y.id id
  unfold BrC.agg
  generalize Lib.compareInt y.id id = r at h1
  have H1 := Lib.hid h1
  clear h1
  go_enter Tryz.func132, Tryz.ntmps132
  go_wp2_with fail
  refine (H1.out _).mono ?_
  rintro e w1 ⟨rfl, rfl⟩
  dsimp only
  go_wp2
  go_ret
  exact ⟨rfl, (Grew.refl w).alloc _⟩
set_option maxHeartbeats 2000000 in
theorem searchE (l : List Br) (id : Int) (v : Value) (w : World) (hv : SlBr w v l) (hlen : l.length ≤ 1000000)
    (hm : ∀ i j (hi : i < l.length) (hj : j < l.length), i ≤ j → cmpId id l[j] < 0 → cmpId id l[i] < 0) :
    Calls Tryz.prog 131 #[v, .int .i64 id, .func (.func 132) #[] #[]] w fun e w' =>
      e = .returned (.tuple #[.int .i64 (passes (fun y => decide (cmpId id y < 0)) l), .bool (hitB (fun y => decide (cmpId id y = 0)) l (passes (fun y => decide (cmpId id y < 0)) l))]) ∧ Grew w w' := by
  obtain ⟨A, c, rfl, hlc, hcap, hr⟩ := hv.open_
  have HR := Lib.hid hr
  have HM := Lib.hid hm
  have HP := Lib.hid (passes_eq (fun y => decide (cmpId id y < 0)) l)
  clear hv hr hm hcap hlc
  generalize passes (fun y => decide (cmpId id y < 0)) l = P0 at HP ⊢
  generalize hh0 : hitB (fun y => decide (cmpId id y = 0)) l P0 = hb0
  have HH0 := Lib.hid hh0
  clear hh0
  go_enter Tryz.func131, Tryz.ntmps131
  go_wp2
  go_loopg [9, 10] l.length (fun gg s9 s10 wr => ∃ i j : Nat, i ≤ j ∧ j ≤ l.length ∧ j - i ≤ gg ∧ s9 = .int .i64 i ∧ s10 = .int .i64 j ∧ Aside (Grew w wr) ∧ Aside (∀ t (h : t < l.length), t < i → cmpId id l[t] < 0) ∧ Aside (∀ t (h : t < l.length), j ≤ t → ¬ cmpId id l[t] < 0))
  case atStart => exact ⟨0, l.length, by omega, by omega, by omega, rfl, rfl, (show Aside _ from Grew.refl _), (show Aside _ from fun t h ht => by omega), (show Aside _ from fun t h ht => by omega)⟩
  case round =>
    obtain ⟨i, j, hij, hj, hgk, rfl, rfl, BW, M1, M2⟩ := hrel
    by_cases hlt : i < j
    · have hltz : (i : Int) < (j : Int) := by omega
      have hmid : ((i : Int) + (j : Int)) / 2 = (((i + j) / 2 : Nat) : Int) := by omega
      have hk1 : i ≤ (i + j) / 2 := by omega
      have hk2 : (i + j) / 2 < j := by omega
      have hkl : (i + j) / 2 < l.length := by omega
      have hkz : (i : Int) + (j : Int) < 2 * (l.length : Int) := by omega
      have hkz2 : ((i : Int) + (j : Int)) / 2 < (l.length : Int) := by omega
      have h0z : (0 : Int) ≤ ((i : Int) + (j : Int)) / 2 := by omega
      have htn : (((i : Int) + (j : Int)) / 2).toNat = (i + j) / 2 := by omega
      obtain ⟨b, off, rfl, hb, hcell⟩ := HR.out (by omega)
      obtain ⟨kv, hkv, hcl⟩ := hcell ((i + j) / 2) hkl
      obtain ⟨c0, c1, c2, c3, c4, c5⟩ := hcl wr BW.out
      obtain ⟨Az, cz, rfl, -, -, -⟩ := hkv.open_
      have HN1 : RowKit.Hid (cmpId id l[(i + j) / 2] < 0 → ∀ t (h : t < l.length), t < (i + j) / 2 + 1 → cmpId id l[t] < 0) := fun h t ht htk => HM.out t _ ht hkl (by omega) h
      have HN2 : RowKit.Hid (¬ cmpId id l[(i + j) / 2] < 0 → ∀ t (h : t < l.length), (i + j) / 2 ≤ t → ¬ cmpId id l[t] < 0) := fun h t ht htk h3 => h (HM.out _ t hkl ht htk h3)
      have HMID := Lib.hid hmid
      clear hcell hcl hkv hmid
      unfold cmpId at HN1 HN2
      generalize l[(i + j) / 2] = y at c0 c1 c2 c3 c4 c5 HN1 HN2
      obtain ⟨yi, yp, yl, yt, ym, yk⟩ := y
      dsimp only at c0 c1 c2 c3 c4 c5 HN1 HN2
      have kC := fun W => edFind1 ⟨yi, yp, yl, yt, ym, .slice Az yk.length cz⟩ id W
      dsimp only [BrC.agg] at kC
      generalize Lib.compareInt yi id = r at kC HN1 HN2
      have KC := Lib.hid kC
      clear kC
      by_cases hneg : r < 0
      · have Hn := Lib.hid (HN1.out hneg)
        go_wp2_with fail
        refine (KC.out _).mono ?_
        rintro e w1 ⟨rfl, g1⟩
        have HG1 := Lib.hid g1
        clear g1
        dsimp only
        go_wp2
        rw [HMID.out]
        go_roundg (j - ((i + j) / 2 + 1))
        case measure => omega
        case rel => exact ⟨(i + j) / 2 + 1, j, by omega, by omega, by omega, by go_num, rfl, (show Aside _ from BW.out.trans HG1.out), (show Aside _ from Hn.out), M2⟩
      · have hneg' : decide (r < 0) = false := by simpa using hneg
        have Hn := Lib.hid (HN2.out hneg)
        go_wp2_with fail
        refine (KC.out _).mono ?_
        rintro e w1 ⟨rfl, g1⟩
        have HG1 := Lib.hid g1
        clear g1
        dsimp only
        go_wp2
        rw [HMID.out]
        go_roundg ((i + j) / 2 - i)
        case measure => omega
        case rel => exact ⟨i, (i + j) / 2, by omega, by omega, by omega, rfl, rfl, (show Aside _ from BW.out.trans HG1.out), M1, (show Aside _ from Hn.out)⟩
    · have hltz : ¬ (i : Int) < (j : Int) := by omega
      obtain rfl : i = j := by omega
      have hP := HP.out i hj (fun t h ht => by simpa using M1.out t h ht) (fun t h ht => by simpa using M2.out t h ht)
      subst hP
      by_cases hil : P0 < l.length
      · have hilz : (P0 : Int) < (l.length : Int) := by omega
        have h0z : (0 : Int) ≤ (P0 : Int) := by omega
        obtain ⟨b, off, rfl, hb, hcell⟩ := HR.out (by omega)
        obtain ⟨kv, hkv, hcl⟩ := hcell P0 hil
        obtain ⟨c0, c1, c2, c3, c4, c5⟩ := hcl wr BW.out
        obtain ⟨Az, cz, rfl, -, -, -⟩ := hkv.open_
        have hh : (cmpId id l[P0] == 0) = hb0 := by
          rw [← HH0.out]
          simp only [hitB, List.getElem?_eq_getElem hil]
          rfl
        unfold cmpId at hh
        clear hcell hcl hkv
        generalize l[P0] = y at c0 c1 c2 c3 c4 c5 hh
        obtain ⟨yi, yp, yl, yt, ym, yk⟩ := y
        dsimp only at c0 c1 c2 c3 c4 c5 hh
        have kC := fun W => edFind1 ⟨yi, yp, yl, yt, ym, .slice Az yk.length cz⟩ id W
        dsimp only [BrC.agg] at kC
        generalize Lib.compareInt yi id = r at kC hh
        have KC := Lib.hid kC
        have HHE := Lib.hid hh
        clear kC hh
        go_wp2_with fail
        refine (KC.out _).mono ?_
        rintro e w1 ⟨rfl, g1⟩
        have HG1 := Lib.hid g1
        clear g1
        dsimp only
        go_wp2
        go_ret2
        exact ⟨ret_ib HHE.out, BW.out.trans HG1.out⟩
      · have hilz : decide ((P0 : Int) < (l.length : Int)) = false := by simp; omega
        have hh : false = hb0 := by rw [← HH0.out]; simp [hitB, hil]
        have HHE := Lib.hid hh
        clear hh
        go_wp2
        go_ret2
        exact ⟨ret_ib HHE.out, BW.out⟩
theorem cmpId_asc {l : List Br} (h : idsAsc l) (id : Int) : ∀ i j (hi : i < l.length) (hj : j < l.length), i ≤ j → cmpId id l[j] < 0 → cmpId id l[i] < 0 := by
  intro i j hi hj hij hc
  rw [cmpId_lt] at hc ⊢
  by_cases e : i = j
  · subst e; exact hc
  · have := List.pairwise_iff_getElem.1 h i j hi hj (by omega)
    omega
/-- Where a unit stands, or would stand. -/
def posF (l : List Br) (id : Int) : Nat := passes (fun y => decide (cmpId id y < 0)) l
theorem pos_at {l : List Br} (h : idsAsc l) {i : Nat} (hi : i < l.length) : posF l l[i].id = i := by
  refine passes_eq _ l i (by omega) (fun t ht htk => ?_) (fun t ht htk => ?_)
  · have := List.pairwise_iff_getElem.1 h t i ht hi htk
    simp only [decide_eq_true_eq, cmpId_lt]
    omega
  · simp only [decide_eq_false_iff_not, cmpId_lt]
    by_cases e : i = t
    · subst e; omega
    · have := List.pairwise_iff_getElem.1 h i t hi ht (by omega)
      omega
theorem hit_asc {l : List Br} (h : idsAsc l) (id : Int) : hitB (fun y => decide (cmpId id y = 0)) l (posF l id) = (brFind l id).isSome := by
  cases ho : brFind l id with
  | none => exact at_none id ho _
  | some b =>
    obtain ⟨k, hk, _, e⟩ := brIdx_some ho
    have hid : l[k].id = id := by
      rw [e]
      exact (find_in ho).2
    have h1 := pos_at h hk
    rw [hid] at h1
    rw [h1]
    simp only [hitB, List.getElem?_eq_getElem hk, Option.isSome_some, decide_eq_true_eq, cmpId_eq]
    exact hid
section
variable {base E : Nat} {bv : Value} {t : Tr} {w : World}
theorem EdB.reads (h : EdB base E bv t w) : ∃ rv, SlI w rv t.roots ∧ SlBr w bv t.brs ∧ w.cell? ⟨E, 0, none⟩ = some rv ∧ w.cell? ⟨E, 1, none⟩ = some bv ∧ base ≤ E ∧ E < w.heap.size := by
  obtain ⟨rv, cs, h⟩ := h
  exact ⟨rv, h.tree.1, h.tree.2, h.cells.1, h.cells.2.1, h.le, (Array.getElem?_eq_some_iff.1 h.box).1⟩
theorem edFind (h : EdB base E bv t w) (hasc : idsAsc t.brs) (hlen : t.brs.length ≤ 1000000) (id : Int) :
    Calls Tryz.prog 85 #[.pointer (some ⟨E, 0, none⟩), .int .i64 id] w fun e w' => e = .returned (.tuple #[.int .i64 (posF t.brs id), .bool (brFind t.brs id).isSome]) ∧ Grew w w' := by
  obtain ⟨rv, -, hb, -, c1, -, -⟩ := h.reads
  have k := searchE t.brs id bv w hb hlen (cmpId_asc hasc id)
  have hh := hit_asc hasc id
  unfold posF at hh
  rw [hh] at k
  have K := Lib.hid k
  unfold posF
  generalize (brFind t.brs id).isSome = q at K ⊢
  generalize passes (fun y => decide (cmpId id y < 0)) t.brs = n at K ⊢
  obtain ⟨A, c, rfl, -, -, -⟩ := hb.open_
  clear k hh h hb
  go_enter Tryz.func85, Tryz.ntmps85
  go_wp2_with fail
  refine K.out.mono ?_
  rintro e w1 ⟨rfl, g1⟩
  dsimp only
  go_wp2
  go_ret2
  exact ⟨rfl, g1⟩
theorem edBranchNo (h : EdB base E bv t w) (hasc : idsAsc t.brs) (hlen : t.brs.length ≤ 1000000) {id : Int} (hno : brFind t.brs id = none) :
    Calls Tryz.prog 86 #[.pointer (some ⟨E, 0, none⟩), .int .i64 id] w fun e w' => e = .returned (.pointer none) ∧ Grew w w' := by
  have k := edFind h hasc hlen id
  rw [hno] at k
  dsimp only [Option.isSome_none] at k
  have K := Lib.hid k
  clear k h hno
  go_enter Tryz.func86, Tryz.ntmps86
  go_wp2_with fail
  refine K.out.mono ?_
  rintro e w1 ⟨rfl, g1⟩
  dsimp only
  go_wp2
  go_ret
  exact ⟨rfl, g1⟩
theorem edBranch (h : EdB base E bv t w) (hasc : idsAsc t.brs) (hlen : t.brs.length ≤ 1000000) {i : Nat} (hi : i < t.brs.length) {B cap : Nat} (hbv : bv = .slice (some ⟨B, 0, none⟩) t.brs.length cap) :
    Calls Tryz.prog 86 #[.pointer (some ⟨E, 0, none⟩), .int .i64 t.brs[i].id] w fun e w' => e = .returned (.pointer (some ⟨B, i * 6, none⟩)) ∧ Grew w w' := by
  have k := edFind h hasc hlen t.brs[i].id
  rw [brFind_at hasc hi, pos_at hasc hi] at k
  dsimp only [Option.isSome_some] at k
  obtain ⟨rv, -, hb, -, c1, -, -⟩ := h.reads
  obtain ⟨A, c, he, hlc, hcm, -⟩ := hb.open_
  rw [hbv] at he
  injection he with hA _ hc
  subst hA hc
  unfold maxLen at hcm
  rw [hbv] at c1
  have K := Lib.hid k
  have HC := Lib.hid c1
  have hiz : (i : Int) < (t.brs.length : Int) := by omega
  have h0z : (0 : Int) ≤ (i : Int) := by omega
  generalize t.brs[i].id = id at K ⊢
  clear k h hb c1 hbv
  go_enter Tryz.func86, Tryz.ntmps86
  go_wp2_with fail
  refine K.out.mono ?_
  rintro e w1 ⟨rfl, g1⟩
  have c1 := keep_cell g1 HC.out
  dsimp only
  go_wp2
  go_ret
  exact ⟨rfl, g1⟩
/-- How kids ends: an address behind which the list of the children lies. -/
def KidsEnd (base E : Nat) (bv : Value) (t : Tr) (p : Int) (w : World) (e : Ending) (w' : World) : Prop := ∃ ab ao kv, e = .returned (.pointer (some ⟨ab, ao, none⟩)) ∧ KAt base E bv t p ⟨ab, ao, none⟩ kv w' ∧ Grew w w'
theorem edKids (h : EdB base E bv t w) (hasc : idsAsc t.brs) (hlen : t.brs.length ≤ 1000000) {p : Int} (hp : p = 0 ∨ ∃ b ∈ t.brs, b.id = p) :
    Calls Tryz.prog 89 #[.pointer (some ⟨E, 0, none⟩), .int .i64 p] w (KidsEnd base E bv t p w) := by
  by_cases hz : p = 0
  · subst hz
    obtain ⟨rv, cs, hE⟩ := h
    have HK := Lib.hid hE.kat0
    clear hE
    go_enter Tryz.func89, Tryz.ntmps89
    go_wp2
    go_ret
    exact ⟨E, 0, rv, rfl, HK.out, Grew.refl w⟩
  · obtain ⟨b, hb, e⟩ := hp.resolve_left hz
    obtain ⟨i, hi, rfl⟩ := List.mem_iff_getElem.1 hb
    subst e
    obtain ⟨rv, cs, hE⟩ := h
    obtain ⟨B, cap, hbv, -, -, -⟩ := own_form hE.brs (by omega)
    obtain ⟨kv, hkv⟩ : ∃ kv, KAt base E bv t t.brs[i].id ⟨B, i * 6 + 5, none⟩ kv w := ⟨_, hE.katB hasc hi hz hbv⟩
    have HK := Lib.hid hkv
    have K := Lib.hid (edBranch ⟨rv, cs, hE⟩ hasc hlen hi hbv)
    have hz' : (t.brs[i].id == 0) = false := by simpa using hz
    generalize t.brs[i].id = p at K HK hz' ⊢
    clear hE hz hb hp hkv
    go_enter Tryz.func89, Tryz.ntmps89
    go_wp2_with fail
    refine K.out.mono ?_
    rintro e w1 ⟨rfl, g1⟩
    dsimp only
    go_wp2
    go_ret
    exact ⟨B, i * 6 + 5, kv, rfl, HK.out.grew g1, g1⟩
end
end Go.Proofs.YtafncfomiolmgaaGreatDoor

/- slices.DeleteFunc at numbers, on a row of the call's own; all other blocks are as they were. No condition but that the function that is handed over answers as p does. -/
namespace Go.Proofs.YtafncfomiolmgaaGreatDoor
open Go.RowKit

theorem grown_set (w : World) (p : Addr) (u : Value) : w.grownBy (w.setCell p u) (some p.block) := ⟨rfl, rfl, rfl, by simp [World.setCell], fun k _ hne => Below.heap_setCell _ _ _ _ (fun e => hne (by rw [e]))⟩
set_option maxHeartbeats 2000000 in
/-- slices.DeleteFunc at Int, on a row of the call's own. -/
theorem deleteFuncG (l : List Int) (p : Int → Bool) (gf : Nat) (lb : Array Value) (eg : ∀ args w, (callFunc gf args).run Tryz.prog w = .ok (.enter gf args) w) (base : Nat) (v : Value) (w : World) (hbase : base ≤ w.heap.size)
    (hown : w.ownsRow base 3 1 v l.length (l.flatMap oneI))
    (hp : ∀ W x, w.grownBy W v.ownBlock → x ∈ l → Calls Tryz.prog gf (#[(.int .i64 x)] ++ lb) W fun e w' => e = .returned (.bool (p x)) ∧ Grew W w') :
    Calls Tryz.prog 31 #[v, .func (.func gf) #[] lb] w fun e w' => ∃ v', e = .returned v' ∧ w'.ownsRow base 3 1 v' (l.filter fun x => !p x).length ((l.filter fun x => !p x).flatMap oneI) ∧ v'.ownBlock = v.ownBlock ∧ Below base w w' ∧ w.grownBy w' v.ownBlock := by
  have hix := indexFuncI l p gf lb eg v w (Rd.of_own hown) (fun W x hW hx => hp W x (grown_grew hW _) hx)
  by_cases hany : l.any p = true
  case neg =>
    simp only [Bool.not_eq_true] at hany
    have hid : l.filter (fun x => !p x) = l := List.filter_eq_self.2 (fun x hx => by
      rw [List.any_eq_false] at hany
      simpa using hany x hx)
    have hm : idxP p l = -1 := idxP_miss p l (fun i hi => by
      rw [List.any_eq_false] at hany
      simpa using hany l[i] (List.getElem_mem hi))
    rw [hid]
    rw [hm] at hix
    have HX := Lib.hid hix
    have HO := Lib.hid hown
    generalize l.flatMap oneI = cs at HO ⊢
    clear hix hown hp hid hm hany
    go_enter Tryz.func31, Tryz.ntmps31
    go_wp2_with (first | (go_at_call 75; refine HX.out.mono ?_; rintro e w1 ⟨rfl, hg⟩))
    go_ret
    exact ⟨v, rfl, own_later HO.out hg, rfl, hg.below.mono hbase, grown_grew hg _⟩
  case pos =>
    obtain ⟨m, hm, hpm, hbef⟩ := idxP_find p l hany
    have he : idxP p l = (m : Int) := idxP_hit p l m hm hpm hbef
    rw [he] at hix
    obtain ⟨g, cap, hv, hbg, hglt, hcap⟩ := own_form hown (by omega)
    subst hv
    have hcm : cap ≤ maxLen := own_max hown
    unfold maxLen at hcm
    have DI0 : DelInv 1 oneI l (fun x => !p x) (l.flatMap oneI) m (m + 1) := DelInv.start (f := oneI) (fun _ => rfl) m hm (by simp [hpm]) (fun t ht h => by simp [hbef t ht h])
    have HX := Lib.hid hix
    have HO := Lib.hid hown
    have HP := Lib.hid hp
    have HD := Lib.hid DI0
    have hneg : ((m : Int) == -1) = false := beq_eq_false_iff_ne.2 (by omega)
    clear hix hown hp DI0 he hpm hbef hany
    go_enter Tryz.func31, Tryz.ntmps31
    go_wp2_with (first | (go_at_call 75; refine HX.out.mono ?_; rintro e w1 ⟨rfl, hg⟩))
    go_loopg [5, 6] l.length (fun gg s5 s6 wr => ∃ ii jj : Nat, ii < jj ∧ jj ≤ l.length ∧ l.length - jj ≤ gg ∧ s5 = .int .i64 ii ∧ s6 = .int .i64 jj ∧ Aside (Below base w wr ∧ w.grownBy wr (some g)) ∧ Aside (∃ ds, wr.ownsRow base 3 1 (.slice (some ⟨g, 0, none⟩) l.length cap) l.length ds ∧ DelInv 1 oneI l (fun x => !p x) ds ii jj))
    case atStart => exact ⟨m, m + 1, by omega, by omega, by omega, rfl, by go_num, (show Aside _ from ⟨hg.below.mono hbase, grown_grew hg _⟩), _, own_later HO.out hg, HD.out⟩
    case round =>
      obtain ⟨ii, jj, hij, hjl, hgk, rfl, rfl, BW, hds⟩ := hrel
      obtain ⟨ds, ho, DI0⟩ := hds.out
      have DI := Lib.hid DI0
      clear hds DI0
      by_cases hlt : jj < l.length
      · have hltz : (jj : Int) < (l.length : Int) := by omega
        have c0 : wr.cell? ⟨g, jj, none⟩ = some (.int .i64 l[jj]) := by
          have h1 := ho.cellAt (jj * 1 + 0) (by omega)
          have h2 := DelInv.at_ (f := oneI) DI.out (fun _ => rfl) hlt 0 (by omega)
          rw [h2] at h1
          simpa [oneI] using h1
        have hcall := HP.out wr l[jj] BW.out.2 (List.getElem_mem hlt)
        have HOr := Lib.hid ho
        have Hlt := Lib.hid hlt
        generalize hy : l[jj] = y at c0 hcall
        have B : Aside (l[jj] = y) := hy
        clear hy ho
        cases hq : p y with
        | true =>
          have Hq : Aside (p y = true) := hq
          rw [hq] at hcall
          go_wp2_with (go_at_fn gf; refine hcall.mono ?_; rintro e w' ⟨rfl, hb'⟩)
          go_roundg (l.length - (jj + 1))
          case measure => omega
          case rel => exact ⟨ii, jj + 1, by omega, by omega, by omega, rfl, by go_num, (show Aside _ from ⟨BW.out.1.trans (hb'.below.mono (Nat.le_trans hbase BW.out.1.size)), BW.out.2.trans (grown_grew hb' _)⟩), (show Aside _ from ⟨ds, own_later HOr.out hb', DI.out.skip Hlt.out (by have h : l[jj]'Hlt.out = y := B.out; rw [h, Hq.out]; rfl)⟩)⟩
        | false =>
          have Hq : Aside (p y = false) := hq
          rw [hq] at hcall
          go_wp2_with fail
          refine hcall.mono ?_
          rintro e w' ⟨rfl, hb'⟩
          have ho' := own_later HOr.out hb'
          obtain ⟨u0, _, hu0⟩ := own_cell ho' ii (by omega)
          have hf0 := ho'.frozenAt ii
          have HO' := Lib.hid ho'
          clear ho'
          go_wp2
          obtain ⟨ds1, hD1, hG1, hL1, hA1, hB1⟩ := own_setCells (oneI y) (ii * 1) w' ds HO'.out
          go_roundg (l.length - (jj + 1))
          case measure => omega
          case rel =>
            have hyj : l[jj]'Hlt.out = y := B.out
            have hbw : Below base w w' := BW.out.1.trans (hb'.below.mono (Nat.le_trans hbase BW.out.1.size))
            refine ⟨ii + 1, jj + 1, by omega, by omega, by omega, by go_num, by go_num, (show Aside _ from ?_), (show Aside _ from ⟨ds1, ?_, ?_⟩)⟩
            · exact ⟨hbw.setCell (p := ⟨g, ii, none⟩) hbg _, (BW.out.2.trans (grown_grew hb' _)).trans (grown_set _ _ _)⟩
            · simpa [oneI, World.setCells] using hD1
            · exact DelInv.keep (f := oneI) DI.out (fun _ => rfl) Hlt.out (by rw [hyj, Hq.out]; rfl) hL1 (by rw [hyj]; exact hA1) (by rw [hyj]; exact hB1)
      · have hje : jj = l.length := by omega
        subst hje
        have hii : ¬ cap = ii := by omega
        have hgt : (ii : Int) ≤ (l.length : Int) := by omega
        obtain ⟨w2, ds2, hrun, ho2, hg2, ha2⟩ := run_clear_own (P := Tryz.prog) wr 32 3 0 (.int .i64 0) 1 Tryz.underlying32 Tryz.zeroValue3 rfl (by omega) (by simp [Value.cells, Value.oneCell']) ho ii (cap - ii) hij
        have hrun' : ∀ ty, (Builtin.clear_ #[32] ty #[.slice (some ⟨g, ii, none⟩) (l.length - ii) (cap - ii)]).run Tryz.prog wr = .ok (.tuple #[]) w2 := fun _ => by have h := hrun; rw [Nat.mul_one] at h; exact h
        have Ho2 := Lib.hid ho2
        have Ha2 := Lib.hid ha2
        clear ho2 ha2 hrun ho
        go_wp2
        go_ret
        obtain ⟨e1, e2⟩ := DelInv.done (f := oneI) DI.out (fun _ => rfl) Ha2.out
        have hc2 := own_cut Ho2.out ii (by omega)
        rw [e1] at hc2
        refine ⟨_, rfl, ?_, rfl, Below.grown BW.out.1 hg2 (Nat.le_trans hbase BW.out.1.size) (fun k hk => by cases hk; exact hbg), BW.out.2.trans (hg2)⟩
        rw [← e2]
        exact hc2

end Go.Proofs.YtafncfomiolmgaaGreatDoor

/- The editor's put and take, walked. The conditions: the units ascend; the lists are short. -/
namespace Go.Proofs.YtafncfomiolmgaaGreatDoor
open Go.RowKit

/-- Where slices.Index sends a number that is put into a list. -/
theorem putF_idx (n before : Int) : ∀ (ks : List Int), (before = 0 → (0 : Int) ∉ ks) → (before ≠ 0 → before ∈ ks) → ∃ k, k ≤ ks.length ∧ putF n before ks = ks.take k ++ [n] ++ ks.drop k ∧ ((idxP (fun y => before == y) ks = (k : Int)) ∨ (idxP (fun y => before == y) ks = -1 ∧ k = ks.length)) := by
  intro ks h1 h2
  by_cases h0 : before = 0
  · subst h0
    refine ⟨ks.length, Nat.le_refl _, ?_, .inr ⟨idxP_miss _ _ (fun i hi => ?_), rfl⟩⟩
    · rw [List.take_length, List.drop_length, List.append_nil]
      have := h1 rfl
      clear h1 h2
      induction ks with
      | nil => rfl
      | cons x r ih =>
        have hx : x ≠ 0 := fun e => this (by rw [e]; simp)
        unfold putF
        rw [if_neg hx, ih (fun hm => this (List.mem_cons_of_mem _ hm))]
        rfl
    · have hm := List.getElem_mem hi
      simp only [beq_eq_false_iff_ne]
      exact fun e => h1 rfl (by rw [e]; exact hm)
  · have hm := h2 h0
    clear h1 h2
    have key : ∀ ks : List Int, before ∈ ks → ∃ k, ∃ hk : k < ks.length, ks[k] = before ∧ (∀ i (hi : i < ks.length), i < k → ks[i] ≠ before) ∧ putF n before ks = ks.take k ++ [n] ++ ks.drop k := by
      intro ks
      induction ks with
      | nil => intro h; cases h
      | cons x r ih =>
        intro h
        by_cases hx : x = before
        · refine ⟨0, by simp, by simpa using hx, fun i _ hi => absurd hi (Nat.not_lt_zero _), ?_⟩
          unfold putF
          rw [if_pos hx]
          rfl
        · have hr : before ∈ r := by
            rcases List.mem_cons.1 h with e | h
            · exact absurd e.symm hx
            · exact h
          obtain ⟨k, hk, e1, e2, e3⟩ := ih hr
          refine ⟨k + 1, Nat.succ_lt_succ hk, by simpa using e1, fun i hi hik => ?_, ?_⟩
          · cases i with
            | zero => exact hx
            | succ i => exact e2 i (Nat.lt_of_succ_lt_succ hi) (by omega)
          · unfold putF
            rw [if_neg hx, e3]
            rfl
    obtain ⟨k, hk, e1, e2, e3⟩ := key ks hm
    refine ⟨k, by omega, e3, .inl (idxP_hit _ _ k hk (by rw [e1]; simp) (fun i hi hik => ?_))⟩
    simp only [beq_eq_false_iff_ne]
    exact fun e => e2 i hi hik e.symm
section
variable {w0 : World} {E : Nat} {bv : Value} {t : Tr} {w : World}
theorem putDone {w1 w3 : World} {p : Int} {ab ao : Nat} {kv v3 : Value} {L : List Int} {n : Int} {k : Nat} {R : Tr} (h : KAt w0.heap.size E bv t p ⟨ab, ao, none⟩ kv w1) (hR : setK t p (L.take k ++ [n] ++ L.drop k) = R) (hG : Grew w0 w1) (own : w3.ownsRow w0.heap.size 3 1 v3 (L.length + 1) ((L.take k ++ [n] ++ L.drop k).flatMap oneI))
    (hg : (w1.alloc (.cells #[.int .i64 n] 3)).grownBy w3 kv.ownBlock) (hat : v3.ownBlock = kv.ownBlock ∨ ∀ b, v3.ownBlock = some b → (w1.alloc (.cells #[.int .i64 n] 3)).heap.size ≤ b) : EdB w0.heap.size E bv R (w3.setCell ⟨ab, ao, none⟩ v3) ∧ Grew w0 (w3.setCell ⟨ab, ao, none⟩ v3) := by
  have hgr := (World.grownBy_alloc w1 (.cells #[.int .i64 n] 3) kv.ownBlock).trans hg
  have hl : (L.take k ++ [n] ++ L.drop k).length = L.length + 1 := by
    simp only [List.length_append, List.length_take, List.length_drop, List.length_cons, List.length_nil]
    omega
  refine ⟨?_, ?_⟩
  · rw [← hR]
    refine h.back w3 v3 _ hgr ?_ (hat.imp_right fun hb b e => by have := hb b e; simp at this; omega)
    unfold OwnI
    rw [hl]
    exact own
  · exact (Below.grown hG hgr hG.size (fun b e => (h.own.lt b e).1)).setCell (p := ⟨ab, ao, none⟩) h.lo v3
set_option maxHeartbeats 4000000 in
theorem edPut (h : EdB w0.heap.size E bv t w) (hG : Grew w0 w) (hasc : idsAsc t.brs) (hlen : t.brs.length ≤ 1000000) {p : Int} (hp : p = 0 ∨ ∃ b ∈ t.brs, b.id = p) (n before : Int) (h1 : before = 0 → (0 : Int) ∉ childs t p) (h2 : before ≠ 0 → before ∈ childs t p) (hkl : (childs t p).length ≤ 1000000) :
    Calls Tryz.prog 92 #[.pointer (some ⟨E, 0, none⟩), .int .i64 n, .int .i64 p, .int .i64 before] w fun e w' => e = .returned (.tuple #[]) ∧ EdB w0.heap.size E bv (setK t p (putF n before (childs t p))) w' ∧ Grew w0 w' := by
  have K := Lib.hid (edKids h hasc hlen hp)
  obtain ⟨k, hk, hput, hidx⟩ := putF_idx n before (childs t p) h1 h2
  have HL2 := Lib.hid hput
  have HKL := Lib.hid hkl
  have HG := Lib.hid hG
  clear h hG hasc hlen hp h1 h2 hput hkl
  go_enter Tryz.func92, Tryz.ntmps92
  go_wp2_with fail
  refine K.out.mono ?_
  rintro e w1 ⟨ab, ao, kv, rfl, hkat, g1⟩
  have c1 := hkat.cell
  have HKAT := Lib.hid hkat
  have HG1 := Lib.hid (HG.out.trans g1)
  have hix := indexI (childs t p) before kv w1 (Rd.of_own hkat.own)
  have hins := fun (hi : k ≤ (childs t p).length) => insertI w0 (childs t p) n k w1.heap.size kv (w1.alloc (.cells #[.int .i64 n] 3)) (hkat.own.alloc _) (HG1.out.alloc _) hi HKL.out (World.alloc_heap_new w1 _) (fun e => by
    have := (hkat.own.lt _ e.symm).2
    omega)
  have hbk := fun w2 v' ks' h1 h2 h3 => hkat.back w2 v' ks' h1 h2 h3
  obtain ⟨Ak, ck, rfl⟩ := own_slice hkat.own
  have HIX := Lib.hid hix
  have HINS := Lib.hid (hins hk)
  clear g1 hkat hix hins hbk
  have hlz : (0 : Int) ≤ ((childs t p).length : Int) := by omega
  have hkz : (0 : Int) ≤ (k : Int) := by omega
  generalize hR : setK t p (putF n before (childs t p)) = R at ⊢
  have HR := Lib.hid hR
  clear hR
  generalize hL : childs t p = L at HKAT HIX HINS HKL hk hidx c1 hlz HL2
  rcases hidx with hidx | ⟨hidx, hke⟩
  · rw [hidx] at HIX
    have hkn : ¬ (k : Int) < 0 := by omega
    dsimp only
    go_wp2_with fail
    refine HIX.out.mono ?_
    rintro e w2 ⟨rfl, rfl⟩
    dsimp only
    go_wp2_with fail
    refine HINS.out.mono ?_
    rintro e w3 ⟨v3, rfl, own3, hgr3, hat3⟩
    obtain ⟨A3, d3, rfl⟩ := own_slice own3
    have HFIN := Lib.hid (putDone (R := R) HKAT.out (by rw [← HR.out, hL, HL2.out]) HG1.out own3 hgr3 hat3)
    have hgr := (World.grownBy_alloc w1 (.cells #[.int .i64 n] 3) (Value.ownBlock (.slice Ak L.length ck))).trans hgr3
    have c3 := hgr.cell c1 (fun e => HKAT.out.off e.symm)
    have f3 := (World.frozen?_of_block (a := ⟨ab, ao, none⟩) (hgr.block ab HKAT.out.lt (fun e => HKAT.out.off e.symm))).trans HKAT.out.frz
    clear own3 hgr3 hat3 hgr
    dsimp only
    go_wp2
    go_end0
    exact ⟨rfl, by rw [HR.out]; exact HFIN.out⟩
  · rw [hidx] at HIX
    subst hke
    dsimp only
    go_wp2_with fail
    refine HIX.out.mono ?_
    rintro e w2 ⟨rfl, rfl⟩
    dsimp only
    go_wp2_with fail
    refine HINS.out.mono ?_
    rintro e w3 ⟨v3, rfl, own3, hgr3, hat3⟩
    obtain ⟨A3, d3, rfl⟩ := own_slice own3
    have HFIN := Lib.hid (putDone (R := R) HKAT.out (by rw [← HR.out, hL, HL2.out]) HG1.out own3 hgr3 hat3)
    have hgr := (World.grownBy_alloc w1 (.cells #[.int .i64 n] 3) (Value.ownBlock (.slice Ak L.length ck))).trans hgr3
    have c3 := hgr.cell c1 (fun e => HKAT.out.off e.symm)
    have f3 := (World.frozen?_of_block (a := ⟨ab, ao, none⟩) (hgr.block ab HKAT.out.lt (fun e => HKAT.out.off e.symm))).trans HKAT.out.frz
    clear own3 hgr3 hat3 hgr
    dsimp only
    go_wp2
    go_end0
    exact ⟨rfl, by rw [HR.out]; exact HFIN.out⟩
end
end Go.Proofs.YtafncfomiolmgaaGreatDoor

/- The editor's take, walked. The conditions: the units ascend; the lists are short. -/
namespace Go.Proofs.YtafncfomiolmgaaGreatDoor
open Go.RowKit

theorem edTake1 (n : Int) (B : Nat) (x : Int) (W : World) (h0 : W.cell? ⟨B, 0, none⟩ = some (.int .i64 n)) :
    Calls Tryz.prog 138 (#[.int .i64 x] ++ #[.pointer (some ⟨B, 0, none⟩)]) W fun e w' => e = .returned (.bool (x == n)) ∧ Grew W w' := by
  have hB := World.block_lt_of_cell? W _ h0
  go_enter Tryz.func138, Tryz.ntmps138
  go_wp2
  go_ret
  exact ⟨rfl, Grew.refl W⟩
theorem enters_edTake1 : ∀ args w, (callFunc 138 args).run Tryz.prog w = .ok (.enter 138 args) w := enters_of Tryz.func138 (by kernel_rfl) rfl
section
variable {w0 : World} {E : Nat} {bv : Value} {t : Tr} {w : World}
theorem takeDone {w1 w3 : World} {p n : Int} {ab ao : Nat} {kv v3 : Value} {L : List Int} {R : Tr} (h : KAt w0.heap.size E bv t p ⟨ab, ao, none⟩ kv w1) (hR : setK t p (L.filter fun x => !(x == n)) = R) (hG : Grew w0 w1) (own : w3.ownsRow w0.heap.size 3 1 v3 (L.filter fun x => !(x == n)).length ((L.filter fun x => !(x == n)).flatMap oneI))
    (hg : w1.grownBy w3 kv.ownBlock) (hat : v3.ownBlock = kv.ownBlock) : EdB w0.heap.size E bv R (w3.setCell ⟨ab, ao, none⟩ v3) ∧ Grew w0 (w3.setCell ⟨ab, ao, none⟩ v3) := by
  refine ⟨?_, ?_⟩
  · rw [← hR]
    exact h.back w3 v3 _ hg own (.inl hat)
  · exact (Below.grown hG hg hG.size (fun b e => (h.own.lt b e).1)).setCell (p := ⟨ab, ao, none⟩) h.lo v3
theorem edKidsAt {base : Nat} (h : EdB base E bv t w) (hasc : idsAsc t.brs) (hlen : t.brs.length ≤ 1000000) {p : Int} (hp : p = 0 ∨ ∃ b ∈ t.brs, b.id = p) :
    ∃ ab ao kv, KAt base E bv t p ⟨ab, ao, none⟩ kv w ∧ ∀ W, Grew w W → Calls Tryz.prog 89 #[.pointer (some ⟨E, 0, none⟩), .int .i64 p] W fun e w' => e = .returned (.pointer (some ⟨ab, ao, none⟩)) ∧ Grew W w' := by
  by_cases hz : p = 0
  · subst hz
    obtain ⟨rv, cs, hE⟩ := h
    refine ⟨E, 0, rv, hE.kat0, fun W hW => ?_⟩
    clear hE hW
    go_enter Tryz.func89, Tryz.ntmps89
    go_wp2
    go_ret
    exact ⟨rfl, Grew.refl W⟩
  · obtain ⟨b, hb, e⟩ := hp.resolve_left hz
    obtain ⟨i, hi, rfl⟩ := List.mem_iff_getElem.1 hb
    subst e
    obtain ⟨rv, cs, hE⟩ := h
    obtain ⟨B, cap, hbv, -, -, -⟩ := own_form hE.brs (by omega)
    refine ⟨B, i * 6 + 5, _, hE.katB hasc hi hz hbv, fun W hW => ?_⟩
    have hEW : EdB base E bv t W := ⟨rv, cs, hE.grew hW⟩
    have K := Lib.hid (edBranch hEW hasc hlen hi hbv)
    have hz' : (t.brs[i].id == 0) = false := by simpa using hz
    generalize t.brs[i].id = p at K hz' ⊢
    clear hE hz hb hp hEW hW
    go_enter Tryz.func89, Tryz.ntmps89
    go_wp2_with fail
    refine K.out.mono ?_
    rintro e w1 ⟨rfl, g1⟩
    dsimp only
    go_wp2
    go_ret
    exact ⟨rfl, g1⟩
set_option maxHeartbeats 4000000 in
theorem edTake (h : EdB w0.heap.size E bv t w) (hG : Grew w0 w) (hasc : idsAsc t.brs) (hlen : t.brs.length ≤ 1000000) {i : Nat} (hi : i < t.brs.length) (hp : t.brs[i].parent = 0 ∨ ∃ b ∈ t.brs, b.id = t.brs[i].parent) :
    Calls Tryz.prog 94 #[.pointer (some ⟨E, 0, none⟩), .int .i64 t.brs[i].id] w fun e w' => e = .returned (.tuple #[]) ∧ EdB w0.heap.size E bv (setK t t.brs[i].parent (withoutF t.brs[i].id (childs t t.brs[i].parent))) w' ∧ Grew w0 w' := by
  obtain ⟨rv, cs, hE⟩ := h
  obtain ⟨B, cap, hbv, -, -, -⟩ := own_form hE.brs (by omega)
  obtain ⟨-, c1, -⟩ := hE.at_ hi hbv
  have hEw : EdB w0.heap.size E bv t w := ⟨rv, cs, hE⟩
  have KB := Lib.hid (fun W (hW : Grew w W) => edBranch (hEw.grew hW) hasc hlen hi hbv)
  obtain ⟨ab, ao, kv, hkat, hK⟩ := edKidsAt hEw hasc hlen hp
  have KK := Lib.hid hK
  have HKAT := Lib.hid hkat
  have HG := Lib.hid hG
  have C1 := Lib.hid c1
  unfold withoutF
  generalize hR : setK t t.brs[i].parent ((childs t t.brs[i].parent).filter fun x => !(x == t.brs[i].id)) = R
  have HR := Lib.hid hR
  clear hR
  generalize t.brs[i].id = n at KB HR ⊢
  generalize t.brs[i].parent = p at KK C1 HKAT HR ⊢
  clear hE hEw hG hasc hlen hp c1 hbv hkat hK
  go_enter Tryz.func94, Tryz.ntmps94
  go_wp2_with fail
  refine (KB.out _ ((Grew.refl w).alloc _)).mono ?_
  rintro e w1 ⟨rfl, g1⟩
  have b0 := new_cell (cs := [.int .i64 n]) g1 0 _ rfl
  have HG1 := Lib.hid (((Grew.refl w).alloc _).trans g1)
  have c1 := keep_cell HG1.out C1.out
  clear g1
  dsimp only
  go_wp2_with fail
  refine (KK.out _ HG1.out).mono ?_
  rintro e w2 ⟨rfl, g2⟩
  have hk2 := HKAT.out.grew (HG1.out.trans g2)
  have b2 := keep_cell g2 b0
  have d1 := hk2.cell
  have HKAT2 := Lib.hid hk2
  have HG2 := Lib.hid (HG.out.trans (HG1.out.trans g2))
  have hbox : some w.heap.size ≠ kv.ownBlock := fun e => by
    have := (HKAT.out.own.lt _ e.symm).2
    omega
  have hdel := deleteFuncG (childs t p) (fun x => x == n) 138 #[.pointer (some ⟨w.heap.size, 0, none⟩)] enters_edTake1 w0.heap.size kv w2 HG2.out.size hk2.own (fun W x hW _ => edTake1 n w.heap.size x W (hW.cell b2 hbox))
  have HDEL := Lib.hid hdel
  obtain ⟨Ak, ck, rfl⟩ := own_slice hk2.own
  clear g2 hk2 hdel b0 c1 hbox
  generalize childs t p = L at HDEL HR d1 HKAT2
  dsimp only
  go_wp2_with fail
  refine HDEL.out.mono ?_
  rintro e w3 ⟨v3, rfl, own3, hat3, -, hgr3⟩
  obtain ⟨A3, d3, rfl⟩ := own_slice own3
  have HFIN := Lib.hid (takeDone (R := R) HKAT2.out HR.out HG2.out own3 hgr3 hat3)
  have c3 := hgr3.cell d1 (fun e => HKAT2.out.off e.symm)
  have f3 := (World.frozen?_of_block (a := ⟨ab, ao, none⟩) (hgr3.block ab HKAT2.out.lt (fun e => HKAT2.out.off e.symm))).trans HKAT2.out.frz
  clear own3 hgr3 hat3
  dsimp only
  go_wp2
  go_end0
  exact ⟨rfl, HFIN.out⟩
end
end Go.Proofs.YtafncfomiolmgaaGreatDoor

/- tree.known on any tree, orTop, kids, Kids, walked. The conditions: the library's own variables hold what they must; the lists are short. -/
namespace Go.Proofs.YtafncfomiolmgaaGreatDoor
open Go.RowKit

set_option maxHeartbeats 2000000 in
theorem tKnownNo (rs : List Int) (l : List Br) (rv bv kv : Value) (w : World) (hE : Env w) (hr : SlI w rv rs) (hv : SlBr w bv l) (hf : FewBr l) (hrl : rs.length ≤ 1000000) (hT : ¬ RightT ⟨rs, l⟩) :
    Calls Tryz.prog 117 #[.agg #[rv, bv], kv] w fun e w' => e = .returned (.int .i64 1) ∧ Grew w w' := by
  have KR := Lib.hid (fun W (hW : Grew w W) => tRight rs l rv bv W (hE.mono hW) (hr.mono hW) (hv.mono hW) hf hrl)
  have HT := Lib.hid hT
  clear hE hr hv hf hrl hT
  go_enter Tryz.func117, Tryz.ntmps117
  go_wp2_with fail
  refine (KR.out _ ((Grew.refl w).alloc _)).mono ?_
  rintro e w1 ⟨bb, rfl, hbb, g1⟩
  obtain rfl : bb = false := by
    cases bb
    · rfl
    · exact absurd (hbb.1 rfl) HT.out
  have HG1 := Lib.hid g1
  clear hbb g1
  dsimp only
  go_wp2
  go_ret
  exact ⟨rfl, ((Grew.refl w).alloc _).trans HG1.out⟩
/-- The error of a tree and a unit, or 0 for the top. -/
def topR (l : List Br) (id : Int) : Int := if id = 0 then 0 else knownF l [id]
set_option maxHeartbeats 2000000 in
theorem tOrTop (rs : List Int) (l : List Br) (id : Int) (rv bv : Value) (w : World) (hE : Env w) (hr : SlI w rv rs) (hv : SlBr w bv l) (hf : FewBr l) (hrl : rs.length ≤ 1000000) (n : Int) (hn : (¬ RightT ⟨rs, l⟩ → n = 1) ∧ (RightT ⟨rs, l⟩ → n = topR l id)) :
    Calls Tryz.prog 73 #[.agg #[rv, bv], .int .i64 id] w fun e w' => e = .returned (.int .i64 n) ∧ Grew w w' := by
  have hfr : ∀ W : World, SlI (W.alloc (.cells #[.int .i64 id] 3)) (.slice (some ⟨W.heap.size, 0, none⟩) 1 1) [id] := fun W => Rd.fresh W _ 1 1 [.int .i64 id] rfl (by decide)
  have hK : ∀ W kv ids, Grew w W → SlI W kv ids → (ids = [] ∧ id = 0 ∨ ids = [id] ∧ id ≠ 0) → Calls Tryz.prog 117 #[.agg #[rv, bv], kv] W fun e w' => e = .returned (.int .i64 n) ∧ Grew W w' := by
    intro W kv ids hW hk hi
    by_cases hT : RightT ⟨rs, l⟩
    · have h1 := tKnown rs l ids rv bv kv W (hE.mono hW) (hr.mono hW) (hv.mono hW) hk hf hrl hT
      have h2 : knownF l ids = n := by
        rw [hn.2 hT]
        unfold topR
        rcases hi with ⟨rfl, h⟩ | ⟨rfl, h⟩
        · rw [if_pos h]
          rfl
        · rw [if_neg h]
      rw [h2] at h1
      exact h1
    · have h1 := tKnownNo rs l rv bv kv W (hE.mono hW) (hr.mono hW) (hv.mono hW) hf hrl hT
      rw [hn.1 hT]
      exact h1
  have KK := Lib.hid hK
  have HFR := Lib.hid hfr
  clear hE hr hv hf hrl hK hfr hn
  by_cases h0 : id = 0
  · subst h0
    go_enter Tryz.func73, Tryz.ntmps73
    go_wp2_with fail
    refine (KK.out _ _ [] ((Grew.refl w).alloc _) (SlI.nil _) (.inl (by simp))).mono ?_
    rintro e w1 ⟨rfl, g1⟩
    dsimp only
    go_wp2
    go_ret
    exact ⟨rfl, ((Grew.refl w).alloc _).trans g1⟩
  · have h0' : (id == 0) = false := by simpa using h0
    have H0 := Lib.hid h0
    clear h0
    go_enter Tryz.func73, Tryz.ntmps73
    go_wp2_with fail
    refine (KK.out _ _ [id] (((Grew.refl w).alloc _).alloc _) (by have := HFR.out (w.alloc (.cells #[rv, bv] 35)); simpa using this) (.inr ⟨rfl, H0.out⟩)).mono ?_
    rintro e w1 ⟨rfl, g1⟩
    dsimp only
    go_wp2
    go_ret
    exact ⟨rfl, (((Grew.refl w).alloc _).alloc _).trans g1⟩
/-- The children of a unit of a right tree: the list itself, not a copy. -/
theorem tKids0 (rs : List Int) (l : List Br) (id : Int) (rv bv : Value) (w0 w : World) (hr : SlI w0 rv rs) (hv : SlBr w0 bv l) (hg : Grew w0 w) (hf : l.length ≤ 1000000) (hT : RightT ⟨rs, l⟩) (hid : id = 0 ∨ ∃ b, brFind l id = some b) :
    Calls Tryz.prog 74 #[.agg #[rv, bv], .int .i64 id] w fun e w' => ∃ v, e = .returned v ∧ SlI w0 v (childs ⟨rs, l⟩ id) ∧ Grew w w' := by
  unfold childs
  by_cases h0 : id = 0
  · subst h0
    rw [if_pos rfl]
    have HR := Lib.hid hr
    obtain ⟨B, d, rfl, -, -, -⟩ := hr.open_
    clear hr hv hg hid
    go_enter Tryz.func74, Tryz.ntmps74
    go_wp2
    go_ret
    exact ⟨_, rfl, HR.out, (Grew.refl w).alloc _⟩
  · obtain ⟨b, hb⟩ := hid.resolve_left h0
    rw [if_neg h0]
    obtain ⟨k, hk, _, e⟩ := brIdx_some hb
    have hidk : l[k].id = id := by
      rw [e]
      exact (find_in hb).2
    obtain ⟨h1, h2⟩ := at_some hT.2.1 id k hk hidk
    have kA := fun W (hW : Grew w W) => tAt l id rv bv W (hv.mono (hg.trans hW)) hf (cmpId_mono hT.2.1 id)
    rw [h1, h2] at kA
    have KA := Lib.hid kA
    obtain ⟨A, c, rfl, hlc, hc, hrr⟩ := hv.open_
    unfold maxLen at hc
    obtain ⟨bb, off, rfl, hbk, hcell⟩ := hrr (by omega)
    obtain ⟨kv, hkv, hcl⟩ := hcell k hk
    have HKV : RowKit.Hid (SlI w0 kv (match brFind l id with | none => [] | some b => b.kids)) := by
      rw [hb]
      rw [e] at hkv
      exact hkv
    show Calls Tryz.prog 74 #[.agg #[rv, .slice (some ⟨bb, off, none⟩) l.length c], .int .i64 id] w fun e w' => ∃ v, e = .returned v ∧ SlI w0 v (match brFind l id with | none => [] | some b => b.kids) ∧ Grew w w'
    generalize (match brFind l id with | none => [] | some b => b.kids) = K at HKV ⊢
    have hcl5 : ∀ W, Grew w0 W → W.cell? ⟨bb, off + k * 6 + 5, none⟩ = some kv := fun W hW => (hcl W hW).2.2.2.2.2
    have HC := Lib.hid hcl5
    have HG := Lib.hid hg
    have h0' : (id == 0) = false := by simpa using h0
    have hkz : (k : Int) < (l.length : Int) := by omega
    have h0z : (0 : Int) ≤ (k : Int) := by omega
    obtain ⟨Az, cz, rfl, -, -, -⟩ := hkv.open_
    clear hr hv hg hid hb e h1 h2 kA hrr hcell hcl hcl5 hkv hT h0 hidk
    go_enter Tryz.func74, Tryz.ntmps74
    go_wp2_with fail
    refine (KA.out _ ((Grew.refl w).alloc _)).mono ?_
    rintro e w1 ⟨rfl, g1⟩
    have b0 := new_cell g1 0 _ rfl
    have b1 := new_cell g1 1 _ rfl
    have HG1 := Lib.hid (((Grew.refl w).alloc _).trans g1)
    have c5 := HC.out w1 (HG.out.trans HG1.out)
    clear g1
    dsimp only
    go_wp2
    go_ret
    exact ⟨_, rfl, HKV.out, HG1.out⟩
open Classical in
/-- What Kids returns. -/
noncomputable def kidsR (t : Tr) (id : Int) : List Int × Int := if RightT t then (if topR t.brs id = 0 then (childs t id, 0) else ([], topR t.brs id)) else ([], 1)
theorem top_found {l : List Br} {id : Int} (h : topR l id = 0) : id = 0 ∨ ∃ b, brFind l id = some b := by
  unfold topR at h
  by_cases h0 : id = 0
  · exact .inl h0
  · rw [if_neg h0] at h
    unfold knownF at h
    cases hb : brFind l id with
    | none => simp [hb] at h
    | some b => exact .inr ⟨b, rfl⟩
def RetIs (r : List Int × Int) (w : World) (e : Ending) (w' : World) : Prop := ∃ v, e = .returned (.tuple #[v, .int .i64 r.2]) ∧ SlI w' v r.1 ∧ Grew w w'
set_option maxHeartbeats 2000000 in
theorem tKidsX (rs : List Int) (l : List Br) (id : Int) (rv bv : Value) (w : World) (hE : Env w) (hr : SlI w rv rs) (hv : SlBr w bv l) (hf : FewBr l) (hrl : rs.length ≤ 1000000) :
    Calls Tryz.prog 29 #[.agg #[rv, bv], .int .i64 id] w (RetIs (kidsR ⟨rs, l⟩ id) w) := by
  have hO := fun W (hW : Grew w W) n hn => tOrTop rs l id rv bv W (hE.mono hW) (hr.mono hW) (hv.mono hW) hf hrl n hn
  have hKI := fun W (hW : Grew w W) hT hid => tKids0 rs l id rv bv w W hr hv hW hf.1 hT hid
  have hlen : ∀ v, RightT ⟨rs, l⟩ → SlI w v (childs ⟨rs, l⟩ id) → (childs ⟨rs, l⟩ id).length * 8 ≤ 140737488355328 := fun v hT hs => by
    have hb : (childs ⟨rs, l⟩ id).length ≤ 1000000 := by
      unfold childs
      by_cases h0 : id = 0
      · rw [if_pos h0]; exact hrl
      · rw [if_neg h0]
        show (match brFind l id with | none => [] | some b => b.kids).length ≤ 1000000
        cases hb : brFind l id with
        | none => simp
        | some b =>
          obtain ⟨k, hk, e⟩ := List.mem_iff_getElem.1 (find_in hb).1
          have := hf.2 k hk
          rw [e] at this
          exact this
    omega
  by_cases hT : RightT ⟨rs, l⟩
  · have hn : (¬ RightT ⟨rs, l⟩ → topR l id = 1) ∧ (RightT ⟨rs, l⟩ → topR l id = topR l id) := ⟨fun h => absurd hT h, fun _ => rfl⟩
    have KO := Lib.hid (fun W hW => hO W hW _ hn)
    have KI := Lib.hid (fun W hW h => hKI W hW hT h)
    have HL := Lib.hid (fun v => hlen v hT)
    by_cases hz : topR l id = 0
    · have hres : kidsR ⟨rs, l⟩ id = (childs ⟨rs, l⟩ id, 0) := by
        unfold kidsR
        rw [if_pos hT, if_pos hz]
      have HF := Lib.hid (top_found hz)
      rw [hres]
      rw [hz] at KO
      generalize childs ⟨rs, l⟩ id = K at KI HL ⊢
      clear hE hr hv hf hrl hO hKI hlen hn hz hres hT
      go_enter Tryz.func29, Tryz.ntmps29
      go_wp2_with fail
      refine (KO.out _ ((Grew.refl w).alloc _)).mono ?_
      rintro e w1 ⟨rfl, g1⟩
      have b0 := new_cell g1 0 _ rfl
      have b1 := new_cell g1 1 _ rfl
      have HG1 := Lib.hid (((Grew.refl w).alloc _).trans g1)
      clear g1
      dsimp only
      go_wp2_with fail
      refine (KI.out _ HG1.out HF.out).mono ?_
      rintro e w2 ⟨v2, rfl, s2, g2⟩
      have HG2 := Lib.hid (HG1.out.trans g2)
      have HCL := Lib.hid (cloneI K v2 w2 (s2.mono HG2.out) (HL.out v2 s2))
      clear s2 g2 b0 b1
      dsimp only
      go_wp2_with fail
      refine HCL.out.mono ?_
      rintro e w3 ⟨v3, rfl, ho, g3⟩
      have HS := Lib.hid (show SlI w3 v3 K from Rd.of_own ho)
      clear ho
      dsimp only
      go_wp2
      go_ret2
      exact ⟨_, rfl, HS.out, HG2.out.trans g3⟩
    · have hres : kidsR ⟨rs, l⟩ id = ([], topR l id) := by
        unfold kidsR
        rw [if_pos hT, if_neg hz]
      rw [hres]
      generalize topR l id = n at hz KO
      have hz' : (n != 0) = true := by simpa using hz
      clear hE hr hv hf hrl hO hKI hlen hn hz hres hT KI HL
      go_enter Tryz.func29, Tryz.ntmps29
      go_wp2_with fail
      refine (KO.out _ ((Grew.refl w).alloc _)).mono ?_
      rintro e w1 ⟨rfl, g1⟩
      dsimp only
      go_wp2
      go_ret2
      exact ⟨_, rfl, SlI.nil _, ((Grew.refl w).alloc _).trans g1⟩
  · have hres : kidsR ⟨rs, l⟩ id = ([], 1) := by
      unfold kidsR
      rw [if_neg hT]
    have KO := Lib.hid (fun W hW => hO W hW 1 ⟨fun _ => rfl, fun h => absurd h hT⟩)
    rw [hres]
    clear hE hr hv hf hrl hO hKI hlen hres hT
    go_enter Tryz.func29, Tryz.ntmps29
    go_wp2_with fail
    refine (KO.out _ ((Grew.refl w).alloc _)).mono ?_
    rintro e w1 ⟨rfl, g1⟩
    dsimp only
    go_wp2
    go_ret2
    exact ⟨_, rfl, SlI.nil _, ((Grew.refl w).alloc _).trans g1⟩
end Go.Proofs.YtafncfomiolmgaaGreatDoor

/- The reference's Marked and Children of a tree, walked; the program's Marked. No condition but the sizes that a slice can have. -/
namespace Go.Proofs.YtafncfomiolmgaaGreatDoor
open Go.RowKit

/-- The first unit with a mark. -/
def markedF (l : List Br) (m : ByteArray) : Option Br := if m.toList.isEmpty then none else l.find? fun b => b.mark.toList == m.toList
def markV (o : Option Br) : Value := .tuple #[.int .i64 (match o with | none => 0 | some b => b.id), .bool o.isSome]
end Go.Proofs.YtafncfomiolmgaaGreatDoor

/- tree.Marked, walked. No condition but the sizes that a slice can have. -/
namespace Go.Proofs.YtafncfomiolmgaaGreatDoor
open Go.RowKit

def markP (m : ByteArray) (x : ByteArray) : Bool := !m.toList.isEmpty && (x.toList == m.toList)
def markIdx (l : List Br) (m : ByteArray) : Int := idxP (fun b => markP m b.mark) l
theorem markIdx_none {l : List Br} {m : ByteArray} (h : markedF l m = none) : markIdx l m = -1 := by
  refine idxP_miss _ l (fun i hi => ?_)
  unfold markedF at h
  unfold markP
  by_cases hm : m.toList.isEmpty = true
  · rw [hm]
    rfl
  · rw [if_neg hm] at h
    have := List.find?_eq_none.1 h l[i] (List.getElem_mem hi)
    simp only [Bool.not_eq_true] at this
    rw [this, Bool.and_false]
theorem markIdx_some {l : List Br} {m : ByteArray} {b : Br} (h : markedF l m = some b) : ∃ k, ∃ hk : k < l.length, markIdx l m = (k : Int) ∧ l[k] = b := by
  unfold markedF at h
  by_cases hm : m.toList.isEmpty = true
  · rw [if_pos hm] at h
    cases h
  · rw [if_neg hm] at h
    have hmf : m.toList.isEmpty = false := by simpa using hm
    obtain ⟨hb, k, hk, e, hbef⟩ := List.find?_eq_some_iff_getElem.1 h
    refine ⟨k, hk, idxP_hit _ l k hk (by unfold markP; rw [hmf, e]; simpa using hb) (fun i hi hik => ?_), e⟩
    have := hbef i hik
    unfold markP
    rw [hmf]
    simpa using this
set_option maxHeartbeats 2000000 in
theorem tMarked1 (B : Nat) (m : ByteArray) (x : BrC) (W : World) (h0 : W.cell? ⟨B, 0, none⟩ = some (.string m)) :
    Calls Tryz.prog 171 (#[x.agg] ++ #[.pointer (some ⟨B, 0, none⟩)]) W fun e w' => e = .returned (.bool (markP m x.mark)) ∧ Grew W w' := by
  have hB := World.block_lt_of_cell? W _ h0
  unfold BrC.agg markP
  cases hm : m.toList.isEmpty with
  | true =>
    have hee : m.toList = [] := List.isEmpty_iff.1 hm
    have hem : (!m.toList.isEmpty) = false := by simp [hm]
    go_enter Tryz.func171, Tryz.ntmps171
    go_wp2
    go_ret
    exact ⟨by simp, by first | exact (Grew.refl W).alloc _ | exact ((Grew.refl W).alloc _).drew⟩
  | false =>
    have hem : (!m.toList.isEmpty) = true := by simp [hm]
    go_enter Tryz.func171, Tryz.ntmps171
    go_wp2
    go_ret
    exact ⟨by simp, by first | exact (Grew.refl W).alloc _ | exact ((Grew.refl W).alloc _).drew⟩
theorem enters_tMarked1 : ∀ args w, (callFunc 171 args).run Tryz.prog w = .ok (.enter 171 args) w := enters_of Tryz.func171 (by kernel_rfl) rfl
set_option maxHeartbeats 2000000 in
theorem tMarked (l : List Br) (m : ByteArray) (rv bv : Value) (w : World) (hv : SlBr w bv l) : Calls Tryz.prog 134 #[.agg #[rv, bv], .string m] w fun e w' => e = .returned (markV (markedF l m)) ∧ Grew w w' := by
  obtain ⟨A, c, rfl, hlc, hc, hr⟩ := hv.open_
  unfold maxLen at hc
  have HR := Lib.hid hr
  obtain ⟨cs, h1, h2, h3⟩ := hv
  have he : markIdx l m = idxP (fun c : BrC => markP m c.mark) cs := (idxP_rel cs l h2 (fun i h h' => by
    have := congrArg BrC.mark (h3 i h h').1
    simp only [Br.c] at this
    rw [this])).symm
  have hix := indexFuncB cs (fun c => markP m c.mark) _ _ enters_tMarked1 (.slice A l.length c) ((w.alloc (.cells #[rv, .slice A l.length c] 35)).alloc (.cells #[.string m] 9)) (h1.mono (((Grew.refl w).alloc _).alloc _)) (fun W x hW _ => tMarked1 (w.heap.size + 1) m x W (by
    have := new_cell (cs := [.string m]) hW 0 _ rfl
    simpa using this))
  rw [← he] at hix
  have HG0 := Lib.hid (((Grew.refl w).alloc (.cells #[rv, .slice A l.length c] 35)).alloc (.cells #[.string m] 9))
  clear h1 h3 he hr
  cases hO : markedF l m with
  | none =>
    rw [markIdx_none hO] at hix
    have HX := Lib.hid hix
    unfold markV
    dsimp only [Option.isSome_none]
    clear hix hO
    go_enter Tryz.func134, Tryz.ntmps134
    go_wp2_with fail
    refine HX.out.mono ?_
    rintro e w1 ⟨rfl, g1⟩
    dsimp only
    go_wp2
    go_ret2
    exact ⟨rfl, HG0.out.trans g1⟩
  | some b =>
    obtain ⟨k, hk, ek, eb⟩ := markIdx_some hO
    rw [ek] at hix
    have HX := Lib.hid hix
    unfold markV
    dsimp only [Option.isSome_some]
    obtain ⟨bb, off, rfl, hbk, hcell⟩ := HR.out (by omega)
    obtain ⟨kv, -, hcl⟩ := hcell k hk
    have HC := Lib.hid (fun W (hW : Grew w W) => (hcl W hW).1)
    rw [eb] at HC
    have hkz : (k : Int) < (l.length : Int) := by omega
    have h0z : (0 : Int) ≤ (k : Int) := by omega
    clear hix hO ek eb hcell hcl
    go_enter Tryz.func134, Tryz.ntmps134
    go_wp2_with fail
    refine HX.out.mono ?_
    rintro e w1 ⟨rfl, g1⟩
    have HG1 := Lib.hid (HG0.out.trans g1)
    have c0 := HC.out w1 HG1.out
    have t0 := keep_cell g1 (keep_cell ((Grew.refl _).alloc (.cells #[.string m] 9)) (new_cell (Grew.refl (w.alloc (.cells [rv, .slice (some ⟨bb, off, none⟩) l.length c].toArray 35))) 1 _ rfl))
    clear g1
    dsimp only
    go_wp2
    go_ret2
    exact ⟨rfl, HG1.out⟩
end Go.Proofs.YtafncfomiolmgaaGreatDoor

/- A unit that is moved keeps what is below it, and stands where it was put. No condition. -/
namespace Go.Proofs.YtafncfomiolmgaaGreatDoor
open Go.RowKit

theorem parent_there {t : Tr} (h : SoundM t) {u : Br} (hu : u ∈ t.brs) : u.parent = 0 ∨ ∃ b ∈ t.brs, b.id = u.parent := by
  rcases (placed_mem h.asc u).1 (h.placed u hu) with ⟨h1, _⟩ | ⟨_, p, hpm, h2, _⟩
  · exact .inl h1
  · exact .inr ⟨p, hpm, h2⟩
theorem stands_there {l : List Br} {p lv : Int} (h : StandsT l p lv) : p = 0 ∨ ∃ b ∈ l, b.id = p := by
  rcases h with ⟨h1, _⟩ | ⟨_, q, hq, h2, _⟩
  · exact .inl h1
  · exact .inr ⟨q, hq, h2⟩
/-- The lists of children behind a move. -/
theorem childs_moved {t : Tr} {o : Opn} {u : Br} (h : SoundM t) (hc : CanMove t o u) (q : Int) (hq : q = 0 ∨ ∃ b ∈ t.brs, b.id = q) : childs (moveT t o u) q = if q = o.parent then putF o.unit o.before (withoutF o.unit (childs t o.parent)) else withoutF o.unit (childs t q) := by
  have hp := stands_there hc.stands
  have htk := childs_taken h hc.mem
  have hids1 := setK_ids t u.parent (withoutF u.id (childs t u.parent))
  unfold moveT
  simp only
  rw [← hc.id]
  generalize setK t u.parent (withoutF u.id (childs t u.parent)) = t1 at htk hids1 ⊢
  have hp1 : o.parent = 0 ∨ ∃ b ∈ t1.brs, b.id = o.parent := hp.imp id fun h1 => (hids1 _).2 h1
  have hch2 := setK_childs (t := t1) o.parent (putF u.id o.before (childs t1 o.parent)) q hp1
  generalize setK t1 o.parent (putF u.id o.before (childs t1 o.parent)) = t2 at hch2 ⊢
  have e1 : ∀ b : Br, (if b.id = u.id then { b with parent := o.parent } else b).id = b.id := fun b => by split <;> rfl
  have e4 : ∀ b : Br, (if b.id = u.id then { b with parent := o.parent } else b).kids = b.kids := fun b => by split <;> rfl
  have hch : childs (setU t2 u.id fun b => { b with parent := o.parent }) q = childs t2 q := by
    unfold childs setU
    split
    · rfl
    · show (match brFind (t2.brs.map fun b => if b.id = u.id then { b with parent := o.parent } else b) q with
        | none => []
        | some b => b.kids) = _
      rw [find_map _ e1]
      cases brFind t2.brs q with
      | none => rfl
      | some b => exact e4 b
  rw [hch, hch2, htk o.parent hp]
  by_cases hqp : q = o.parent
  · rw [if_pos hqp, if_pos hqp]
  · rw [if_neg hqp, if_neg hqp, htk q hq]
theorem under_there {l : List Br} {n x : Int} (hn : ∃ b ∈ l, b.id = n) (hu : UnderT l n x) : ∃ b ∈ l, b.id = x := by
  cases hu with
  | self => exact hn
  | step hb _ _ => exact ⟨_, hb, rfl⟩
theorem under_rank {l : List Br} {r : Int → Nat} (hr : ∀ b ∈ l, b.parent ≠ 0 → r b.parent < r b.id) {n x : Int} (hu : UnderT l n x) : r n ≤ r x := by
  induction hu with
  | self => exact Nat.le_refl _
  | step hb hp _ ih => have := hr _ hb hp; omega
theorem len_moved {t : Tr} {o : Opn} {u : Br} : (moveT t o u).brs.length = t.brs.length := by
  unfold moveT setU
  simp only [List.length_map]
  rw [setK_brs]
  split
  · rw [setK_brs]
    split <;> simp
  · rw [List.length_map, setK_brs]
    split <;> simp
/-- What is below a unit that moves stays below it, in the same order. -/
theorem below_moved {t : Tr} {o : Opn} {u : Br} (h : SoundM t) (hc : CanMove t o u) : belowT (moveT t o u) o.unit = belowT t o.unit := by
  have hu0 : o.unit ≠ 0 := by rw [← hc.id]; exact unit_pos (h.units u hc.mem)
  have hthere : ∃ b ∈ t.brs, b.id = o.unit := ⟨u, hc.mem, hc.id⟩
  unfold belowT
  rw [if_neg hu0, if_neg hu0, len_moved]
  obtain ⟨r, hr⟩ := h.rank
  refine (below_same t (moveT t o u) t.brs o.unit (fun x hx => ?_) (fun x hx k hk => ?_) t.brs.length o.unit UnderT.self).symm
  · have hxt := under_there hthere hx
    rw [childs_moved h hc x (.inr hxt), if_neg (fun e => hc.notBelow (by rw [← e]; exact hx)), without_no]
    intro hm
    obtain ⟨b, hb, hp, he⟩ := (childs_mem h (.inr hxt)).1 hm
    have h1 := under_rank hr hx
    obtain ⟨c, hcm, hce⟩ := hxt
    have h2 := hr b hb (by rw [hp, ← hce]; exact unit_pos (h.units c hcm))
    rw [hp, he] at h2
    omega
  · have hxt := under_there hthere hx
    obtain ⟨b, hb, hp, he⟩ := (childs_mem h (.inr hxt)).1 hk
    rw [← he]
    obtain ⟨c, hcm, hce⟩ := hxt
    exact UnderT.step hb (by rw [hp, ← hce]; exact unit_pos (h.units c hcm)) (by rw [hp]; exact hx)
/-- Where a number stands that was put in front of another one, or at the end. -/
theorem putF_at {n before : Int} : ∀ {ks : List Int}, (before = 0 → (0 : Int) ∉ ks) → (before ≠ 0 → before ∈ ks) → n ∉ ks → n ≠ before →
    ∃ i, ∃ h : i < (putF n before ks).length, (putF n before ks)[i] = n ∧ (∀ j (hj : j < (putF n before ks).length), j < i → (putF n before ks)[j] ≠ n) ∧ (before = 0 → i + 1 = (putF n before ks).length) ∧ (before ≠ 0 → ∃ h2 : i + 1 < (putF n before ks).length, (putF n before ks)[i + 1] = before)
  | [], _, h2, _, _ => by
    by_cases hb : before = 0
    · have e : putF n before [] = [n] := by unfold putF; rw [if_pos hb]
      rw [e]
      exact ⟨0, by simp, rfl, fun j _ h => absurd h (Nat.not_lt_zero _), fun _ => rfl, fun h => absurd hb h⟩
    · have := h2 hb; cases this
  | y :: r, h1, h2, h3, h4 => by
    rw [List.mem_cons, not_or] at h3
    by_cases hy : y = before
    · have e : putF n before (y :: r) = n :: y :: r := by unfold putF; rw [if_pos hy]
      rw [e]
      refine ⟨0, by simp, rfl, fun j _ h => absurd h (Nat.not_lt_zero _), fun hb => ?_, fun _ => ⟨by simp, hy⟩⟩
      exact absurd (List.mem_cons_self ..) (by rw [hy, hb] at h1; exact h1 rfl)
    · have e : putF n before (y :: r) = y :: putF n before r := by rw [putF, if_neg hy]
      obtain ⟨i, hi, a1, a2, a3, a4⟩ := putF_at (n := n) (before := before) (ks := r) (fun h hm => h1 h (List.mem_cons_of_mem _ hm)) (fun h => by
        rcases List.mem_cons.1 (h2 h) with e | h
        · exact absurd e.symm hy
        · exact h) h3.2 h4
      rw [e]
      refine ⟨i + 1, by simpa using hi, by simpa using a1, fun j hj hji => ?_, fun hb => by rw [List.length_cons, a3 hb], fun hb => ?_⟩
      · cases j with
        | zero => exact fun e => h3.1 e.symm
        | succ j => simpa using a2 j (by simpa using hj) (by omega)
      · obtain ⟨h5, h6⟩ := a4 hb
        exact ⟨by simpa using h5, by simpa using h6⟩
end Go.Proofs.YtafncfomiolmgaaGreatDoor
