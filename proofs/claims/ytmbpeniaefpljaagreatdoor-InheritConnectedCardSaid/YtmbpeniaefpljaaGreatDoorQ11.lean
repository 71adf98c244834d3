/- Lemmas on what the functions of the program and of the library compute: PlainJ, PlainJ2, PlainI3, I1, I2, I3. The conditions stand at each. -/
import Derived.Test.YtmbpeniaefpljaaGreatDoorQ10
import Derived.Test.YtmbpeniaefpljaaGreatDoorQ1
import Derived.Test.YtmbpeniaefpljaaGreatDoorQ7
import Derived.Test.YtmbpeniaefpljaaGreatDoorQ4
import Derived.Test.YtmbpeniaefpljaaGreatDoorQ6
/- The laws of inheritance, plainly: languages, reach, gaps, values without a redundant one. No condition. -/
namespace Go.Proofs.YtmbpeniaefpljaaGreatDoor
open Go.RowKit

theorem mem_ord {ls : List ByteArray} {wt x : ByteArray} : x ∈ ordL wt ls ↔ x ∈ ls := by
  unfold ordL front
  simp only [List.mem_append, List.mem_filter]
  constructor
  · rintro (h | h)
    · exact h.1
    · exact h.1
  · intro h
    cases hx : (x.toList == wt.toList) with
    | true => exact .inl ⟨h, rfl⟩
    | false => exact .inr ⟨h, rfl⟩
theorem ord_ok {ls : List ByteArray} {wt : ByteArray} (h : langsF ls = 0) (hw : isLangF wt.data.toList = true) : orderF ls wt = (ordL wt ls, 0) := by
  unfold orderF
  rw [if_neg (fun k => k h), if_pos hw]
theorem eff_none {l : List Br} {ls : List ByteArray} {vs : List Val} {u n : Int} {wt : ByteArray} (h : langsF ls = 0) (hw : isLangF wt.data.toList = true) : effF l ls vs u n wt = none ↔ ∀ lg ∈ ls, foundF l vs u n lg = none := by
  unfold effF
  rw [ord_ok h hw, List.findSome?_eq_none_iff]
  exact ⟨fun k lg hl => k lg (mem_ord.2 hl), fun k lg hl => k lg (mem_ord.1 hl)⟩
theorem get_lang {vs : List Val} {u n : Int} {lang s : ByteArray} (h : getF vs u n lang = some s) : ∃ x ∈ vs, x.unit = u ∧ x.elem = n ∧ x.lang = lang ∧ x.text = s := by
  unfold getF at h
  obtain ⟨x, hx, rfl⟩ := Option.map_eq_some_iff.1 h
  have hp := List.find?_some hx
  unfold getP at hp
  simp only [Bool.and_eq_true, beq_iff_eq] at hp
  exact ⟨x, List.mem_of_find?_eq_some hx, hp.1, hp.2.1, bytes_inj hp.2.2, rfl⟩
theorem found_lang {l : List Br} {ls : List ByteArray} {vs : List Val} {u n : Int} {lang : ByteArray} {v : Val} (hR : RightV ls vs) (h : foundF l vs u n lang = some v) : lang ∈ ls := by
  obtain ⟨k, hk, -, -, -, h4, -⟩ := along_source h
  obtain ⟨x, hx, -, -, hl, -⟩ := get_lang h4
  have hg := (hR.2.2.1 x hx).2.2.2.1
  unfold inL at hg
  obtain ⟨y, hy, he⟩ := List.any_eq_true.1 hg
  have := bytes_inj (beq_iff_eq.1 he)
  rw [← hl, this]
  exact hy
/-- The wanted language decides if there is a value in it. -/
theorem eff_wanted {l : List Br} {ls : List ByteArray} {vs : List Val} {u n : Int} {wt : ByteArray} {v : Val} (hR : RightV ls vs) (hw : isLangF wt.data.toList = true) (h : foundF l vs u n wt = some v) : effF l ls vs u n wt = some v := by
  have hm := found_lang hR h
  unfold effF
  rw [ord_ok hR.1 hw]
  unfold ordL front
  have hne : wt ∈ ls.filter fun x => x.toList == wt.toList := List.mem_filter.2 ⟨hm, by simp⟩
  have hall : ∀ x ∈ ls.filter (fun x => x.toList == wt.toList), x = wt := fun x hx => bytes_inj (beq_iff_eq.1 (List.mem_filter.1 hx).2)
  cases hf : ls.filter fun x => x.toList == wt.toList with
  | nil => rw [hf] at hne; cases hne
  | cons a r =>
    have ha := hall a (by rw [hf]; exact List.mem_cons_self)
    subst ha
    show ((a :: r) ++ _).findSome? _ = _
    rw [List.cons_append, List.findSome?_cons, h]
/-- The units that a value reaches. -/
def reachF (t : Tr) (vs : List Val) (unit n : Int) (lang : ByteArray) : List Int := (belowT t 0).filter fun u => match foundF t.brs vs u n lang with
  | some v => v.unit == unit
  | none => false
/-- The units without an effective value. -/
def gapsF (t : Tr) (ls : List ByteArray) (vs : List Val) (n : Int) (wt : ByteArray) : List Int := (belowT t 0).filter fun u => (effF t.brs ls vs u n wt).isNone
theorem mem_reach {t : Tr} {vs : List Val} {unit n u : Int} {lang : ByteArray} (hT : RightT t) : u ∈ reachF t vs unit n lang ↔ ∃ v, foundF t.brs vs u n lang = some v ∧ v.unit = unit := by
  unfold reachF
  rw [List.mem_filter]
  constructor
  · rintro ⟨-, h⟩
    split at h
    · rename_i v hv
      exact ⟨v, hv, by simpa using h⟩
    · cases h
  · rintro ⟨v, hv, hu⟩
    rw [hv]
    refine ⟨?_, by simpa using hu⟩
    cases hb : brFind t.brs u with
    | none =>
      unfold foundF at hv
      rw [wayL_none hb] at hv
      cases hv
    | some b => exact (all_mem_iff (right_sound hT) u).2 ⟨b, (find_in hb).1, (find_in hb).2⟩
theorem found_own {t : Tr} {vs : List Val} {u n : Int} {lang : ByteArray} {v : Val} (h : foundF t.brs vs u n lang = some v) (hu : v.unit = u) : (getF vs u n lang).isSome = true := by
  obtain ⟨k, hk, h1, -, -, h4, -⟩ := along_source h
  rw [← h1, hu] at h4
  rw [h4]
  rfl
theorem own_found {t : Tr} (hT : RightT t) {vs : List Val} {u n : Int} {lang : ByteArray} {b : Br} (hb : brFind t.brs u = some b) (h : (getF vs u n lang).isSome = true) : ∃ v, foundF t.brs vs u n lang = some v ∧ v.unit = u := by
  obtain ⟨s, hs⟩ := Option.isSome_iff_exists.1 h
  refine ⟨⟨u, n, lang, s⟩, ?_, rfl⟩
  rw [found_step hT hb]
  unfold ownV
  rw [hs]
  rfl
/-- The reach of a value: its own unit just if it has the value; with each unit its parent; nothing else where nothing is inherited; no two reaches meet. -/
theorem reach_own {t : Tr} (hT : RightT t) {vs : List Val} {unit n : Int} {lang : ByteArray} {b : Br} (hb : brFind t.brs unit = some b) : (getF vs unit n lang).isSome = true ↔ unit ∈ reachF t vs unit n lang :=
  ⟨fun h => (mem_reach hT).2 (own_found hT hb h), fun h => by
    obtain ⟨v, h1, h2⟩ := (mem_reach hT).1 h
    exact found_own h1 h2⟩
theorem reach_some {t : Tr} (hT : RightT t) {vs : List Val} {unit n u : Int} {lang : ByteArray} (h : u ∈ reachF t vs unit n lang) : (getF vs unit n lang).isSome = true := by
  obtain ⟨v, h1, h2⟩ := (mem_reach hT).1 h
  obtain ⟨k, hk, h3, -, -, h4, -⟩ := along_source h1
  rw [← h3, h2] at h4
  rw [h4]
  rfl
theorem reach_parent {t : Tr} (hT : RightT t) {vs : List Val} {unit n u : Int} {lang : ByteArray} (h : u ∈ reachF t vs unit n lang) (hne : u ≠ unit) : ∃ b, brFind t.brs u = some b ∧ b.parent ∈ reachF t vs unit n lang := by
  obtain ⟨v, h1, h2⟩ := (mem_reach hT).1 h
  cases hb : brFind t.brs u with
  | none =>
    unfold foundF at h1
    rw [wayL_none hb] at h1
    cases h1
  | some b =>
    refine ⟨b, rfl, ?_⟩
    have h3 := h1
    rw [found_step hT hb] at h3
    cases ho : ownV vs n lang u with
    | some w =>
      rw [ho] at h3
      obtain rfl := Option.some.inj h3
      exact absurd ((own_some ho).1.symm.trans h2) hne
    | none =>
      rw [ho] at h3
      dsimp only at h3
      by_cases hi : (kindOf n).inh = true
      · rw [if_pos hi] at h3
        exact (mem_reach hT).2 ⟨v, h3, h2⟩
      · rw [if_neg hi] at h3
        cases h3
theorem reach_one {t : Tr} (hT : RightT t) {vs : List Val} {unit n : Int} {lang : ByteArray} (hi : (kindOf n).inh = false) : (reachF t vs unit n lang).length ≤ 1 := by
  have hall : ∀ u ∈ reachF t vs unit n lang, u = unit := fun u hu => by
    obtain ⟨v, h1, h2⟩ := (mem_reach hT).1 hu
    obtain ⟨k, hk, h3, -, -, -, h5, -⟩ := along_source h1
    obtain rfl := h5 hi
    rw [← h2, h3]
    have hw : ∃ b, brFind t.brs u = some b := by
      cases hb : brFind t.brs u with
      | none => rw [wayL_none hb] at hk; cases hk
      | some b => exact ⟨b, rfl⟩
    obtain ⟨b, hb⟩ := hw
    have := wayL_step hT hb
    simp only [this, List.getElem_cons_zero]
  have hnd : (reachF t vs unit n lang).Nodup := (all_nodup (right_sound hT)).filter _
  cases hr : reachF t vs unit n lang with
  | nil => simp
  | cons a r =>
    cases r with
    | nil => simp
    | cons c r =>
      rw [hr] at hall hnd
      have h1 := hall a (by simp)
      have h2 := hall c (by simp)
      rw [h1, h2] at hnd
      simp at hnd
theorem reach_apart {t : Tr} (hT : RightT t) {vs : List Val} {unit other n u : Int} {lang : ByteArray} (h1 : u ∈ reachF t vs unit n lang) (h2 : u ∈ reachF t vs other n lang) : unit = other := by
  obtain ⟨v, a1, a2⟩ := (mem_reach hT).1 h1
  obtain ⟨w, b1, b2⟩ := (mem_reach hT).1 h2
  rw [a1] at b1
  obtain rfl := Option.some.inj b1
  exact a2.symm.trans b2
end Go.Proofs.YtmbpeniaefpljaaGreatDoor

/- The laws of inheritance, plainly: the source of a value, and values without a redundant one. No condition. -/
namespace Go.Proofs.YtmbpeniaefpljaaGreatDoor
open Go.RowKit

/-- A value has one source, on the path of the unit; nothing behind it on the path has one of its own. -/
theorem source_plain {t : Tr} (hT : RightT t) {vs : List Val} {u n : Int} {lang : ByteArray} {v : Val} {b : Br} (hb : brFind t.brs u = some b) (h : foundF t.brs vs u n lang = some v) :
    ∃ i, ∃ hi : i < (pathF t.brs b).length, (pathF t.brs b)[i] = v.unit ∧ (∀ j (hj : j < (pathF t.brs b).length), j < i → (pathF t.brs b)[j] ≠ v.unit) ∧ getF vs v.unit n lang = some v.text ∧ v.elem = n ∧ v.lang = lang ∧ ((kindOf n).inh = false → v.unit = u) ∧ ∀ j (hj : j < (pathF t.brs b).length), i < j → getF vs (pathF t.brs b)[j] n lang = none := by
  obtain ⟨k, hk, h1, h2, h3, h4, h5, h6⟩ := along_source h
  have hp := wayL_path hb
  have hn := wayL_nodup hT u
  have hw := wayL_step hT hb
  rw [hp]
  have hl : (wayL t.brs u).reverse.length = (wayL t.brs u).length := List.length_reverse
  refine ⟨(wayL t.brs u).length - 1 - k, by rw [hl]; omega, ?_, fun j hj hji => ?_, by rw [h1]; exact h4, h2, h3, fun hi => ?_, fun j hj hji => ?_⟩
  · rw [List.getElem_reverse, h1]
    congr 1
    omega
  · rw [List.getElem_reverse, h1]
    rw [hl] at hj
    intro e
    have := (List.getElem_inj hn).1 e
    omega
  · have hk0 := h5 hi
    rw [h1]
    simp only [hk0, hw, List.getElem_cons_zero]
  · rw [List.getElem_reverse]
    rw [hl] at hj
    exact h6 _ _ (by omega)
theorem get_erase {ls : List ByteArray} {vs : List Val} (hR : RightV ls vs) {i : Nat} (hi : i < vs.length) (u n : Int) (lang : ByteArray) :
    getF (vs.eraseIdx i) u n lang = if u = vs[i].unit ∧ n = vs[i].elem ∧ lang = vs[i].lang then none else getF vs u n lang := by
  have hsplit : vs = vs.take i ++ vs[i] :: vs.drop (i + 1) := by
    rw [List.getElem_cons_drop, List.take_append_drop]
  have hers : vs.eraseIdx i = vs.take i ++ vs.drop (i + 1) := List.eraseIdx_eq_take_drop_succ vs i
  have hpw := hR.2.2.2
  rw [hsplit, List.pairwise_append] at hpw
  obtain ⟨-, hp2, hp3⟩ := hpw
  rw [List.pairwise_cons] at hp2
  unfold getF
  by_cases hkey : u = vs[i].unit ∧ n = vs[i].elem ∧ lang = vs[i].lang
  · rw [if_pos hkey, hers]
    have hno : (vs.take i ++ vs.drop (i + 1)).find? (getP u n lang) = none := by
      rw [List.find?_eq_none]
      intro y hy hpy
      unfold getP at hpy
      simp only [Bool.and_eq_true, beq_iff_eq] at hpy
      have e3 := bytes_inj hpy.2.2
      rcases List.mem_append.1 hy with hy | hy
      · exact ltV_key (hp3 y hy vs[i] List.mem_cons_self) (hpy.1.trans hkey.1) (hpy.2.1.trans hkey.2.1) (e3.trans hkey.2.2)
      · exact ltV_key (hp2.1 y hy) (hpy.1.trans hkey.1).symm (hpy.2.1.trans hkey.2.1).symm (e3.trans hkey.2.2).symm
    rw [hno]
    rfl
  · rw [if_neg hkey, hers]
    have hp : getP u n lang vs[i] = false := by
      cases h : getP u n lang vs[i] with
      | false => rfl
      | true =>
        unfold getP at h
        simp only [Bool.and_eq_true, beq_iff_eq] at h
        exact absurd ⟨h.1.symm, h.2.1.symm, (bytes_inj h.2.2).symm⟩ hkey
    have : vs.find? (getP u n lang) = (vs.take i ++ vs.drop (i + 1)).find? (getP u n lang) := by
      conv => lhs; rw [hsplit]
      rw [List.find?_append, List.find?_append, List.find?_cons, hp]
    rw [this]
theorem along_congr {vs us : List Val} {inh : Bool} {n : Int} {lang : ByteArray} : ∀ {w : List Int}, (∀ x ∈ w, getF us x n lang = getF vs x n lang) → alongF us inh n lang w = alongF vs inh n lang w
  | [], _ => rfl
  | x :: r, h => by
    rw [along_step, along_step]
    have hx : ownV us n lang x = ownV vs n lang x := by
      unfold ownV
      rw [h x List.mem_cons_self]
    rw [hx, along_congr (w := r) (fun y hy => h y (List.mem_cons_of_mem _ hy))]
/-- Without a redundant value every unit has the same text. -/
theorem without_found {t : Tr} (hT : RightT t) {ls : List ByteArray} {vs : List Val} (hR : RightV ls vs) {i : Nat} (hi : i < vs.length) {b : Br} (hb : brFind t.brs vs[i].unit = some b) (hinh : (kindOf vs[i].elem).inh = true) {w : Val}
    (hw : foundF t.brs vs b.parent vs[i].elem vs[i].lang = some w) (hwt : w.text = vs[i].text) (n : Int) (lang : ByteArray) : ∀ (k : Nat) (u : Int), (wayL t.brs u).length ≤ k → (foundF t.brs (vs.eraseIdx i) u n lang).map (·.text) = (foundF t.brs vs u n lang).map (·.text) := by
  by_cases hkey : n = vs[i].elem ∧ lang = vs[i].lang
  rotate_left
  · intro k u _
    have : foundF t.brs (vs.eraseIdx i) u n lang = foundF t.brs vs u n lang := along_congr fun x _ => by
      rw [get_erase hR hi, if_neg (fun h => hkey h.2)]
    rw [this]
  obtain ⟨rfl, rfl⟩ := hkey
  intro k
  induction k with
  | zero =>
    intro u hk
    have : wayL t.brs u = [] := List.eq_nil_of_length_eq_zero (by omega)
    unfold foundF
    rw [this]
    rfl
  | succ k ih =>
    intro u hk
    cases hu : brFind t.brs u with
    | none =>
      unfold foundF
      rw [wayL_none hu]
      rfl
    | some c =>
      have hstep := wayL_step hT hu
      rw [hstep] at hk
      have hnd := wayL_nodup hT u
      rw [hstep, List.nodup_cons] at hnd
      rw [found_step hT hu, found_step hT hu]
      by_cases he : u = vs[i].unit
      · subst he
        rw [hb] at hu
        obtain rfl := Option.some.inj hu
        have h1 : ownV (vs.eraseIdx i) vs[i].elem vs[i].lang vs[i].unit = none := by
          rw [own_none, get_erase hR hi, if_pos ⟨rfl, rfl, rfl⟩]
        have h2 : ownV vs vs[i].elem vs[i].lang vs[i].unit = some ⟨vs[i].unit, vs[i].elem, vs[i].lang, vs[i].text⟩ := by
          unfold ownV
          rw [getF_each hR vs[i] (List.getElem_mem hi)]
          rfl
        have h3 : foundF t.brs (vs.eraseIdx i) b.parent vs[i].elem vs[i].lang = foundF t.brs vs b.parent vs[i].elem vs[i].lang := along_congr fun x hx => by
          rw [get_erase hR hi, if_neg]
          rintro ⟨e, -⟩
          rw [e] at hx
          exact hnd.1 hx
        rw [h1, h2]
        dsimp only
        rw [if_pos hinh, h3, hw]
        simpa using hwt
      · have h1 : ownV (vs.eraseIdx i) vs[i].elem vs[i].lang u = ownV vs vs[i].elem vs[i].lang u := by
          unfold ownV
          rw [get_erase hR hi, if_neg (fun h => he h.1)]
        rw [h1]
        cases ownV vs vs[i].elem vs[i].lang u with
        | some x => rfl
        | none =>
          dsimp only
          rw [if_pos hinh, if_pos hinh]
          exact ih c.parent (by simp only [List.length_cons] at hk; omega)
theorem found_langs {l : List Br} {vs : List Val} {u n : Int} {lang : ByteArray} {v : Val} (h : foundF l vs u n lang = some v) : v.lang = lang := by
  obtain ⟨k, hk, -, -, h3, -⟩ := along_source h
  exact h3
theorem find_congr {α : Type} {f g : α → Option Val} {p : Val → ByteArray × ByteArray} : ∀ (l : List α), (∀ x ∈ l, (f x).map p = (g x).map p) → (l.findSome? f).map p = (l.findSome? g).map p
  | [], _ => rfl
  | x :: r, h => by
    have hx := h x List.mem_cons_self
    rw [List.findSome?_cons, List.findSome?_cons]
    cases hf : f x with
    | some a =>
      cases hg : g x with
      | some c => rw [hf, hg] at hx; exact hx
      | none => rw [hf, hg] at hx; cases hx
    | none =>
      cases hg : g x with
      | some c => rw [hf, hg] at hx; cases hx
      | none => exact find_congr r fun y hy => h y (List.mem_cons_of_mem _ hy)
theorem without_eff {t : Tr} (hT : RightT t) {ls : List ByteArray} {vs : List Val} (hR : RightV ls vs) {i : Nat} (hi : i < vs.length) {b : Br} (hb : brFind t.brs vs[i].unit = some b) (hinh : (kindOf vs[i].elem).inh = true) {w : Val}
    (hw : foundF t.brs vs b.parent vs[i].elem vs[i].lang = some w) (hwt : w.text = vs[i].text) (u n : Int) (wt : ByteArray) :
    (effF t.brs ls (vs.eraseIdx i) u n wt).map (fun v => (v.text, v.lang)) = (effF t.brs ls vs u n wt).map (fun v => (v.text, v.lang)) := by
  refine find_congr _ fun lg _ => ?_
  have h := without_found hT hR hi hb hinh hw hwt n lg _ u (Nat.le_refl _)
  cases h1 : foundF t.brs (vs.eraseIdx i) u n lg with
  | none =>
    cases h2 : foundF t.brs vs u n lg with
    | none => rfl
    | some y => rw [h1, h2] at h; cases h
  | some x =>
    cases h2 : foundF t.brs vs u n lg with
    | none => rw [h1, h2] at h; cases h
    | some y =>
      rw [h1, h2] at h
      simp only [Option.map_some, Option.some.injEq] at h ⊢
      rw [h, found_langs h1, found_langs h2]
end Go.Proofs.YtmbpeniaefpljaaGreatDoor

/- What the questions of inheritance return, plainly. No condition. -/
namespace Go.Proofs.YtmbpeniaefpljaaGreatDoor
open Go.RowKit

def val0 : Val := ⟨0, 0, ⟨#[]⟩, ⟨#[]⟩⟩
open Classical in
/-- The error of a tree, languages and values. -/
noncomputable def ofI (t : Tr) (ls : List ByteArray) (vs : List Val) : Int := if RightT t ∧ (checkF ls vs).2 = 0 then 0 else 1
def hasI (t : Tr) (u : Int) : Int := if (brFind t.brs u).isSome = true then 0 else 7
def numI (n : Int) : Int := if isEl n = true then 0 else 2
def lanI (s : ByteArray) : Int := if isLangF s.data.toList = true then 0 else 3
/-- The error of a question. -/
noncomputable def askI (t : Tr) (ls : List ByteArray) (vs : List Val) (u n : Int) (lang : ByteArray) : Int := orF [ofI t ls vs, hasI t u, numI n, lanI lang]
noncomputable def foundR (t : Tr) (ls : List ByteArray) (vs : List Val) (u n : Int) (lang : ByteArray) : Option Val × Int :=
  if askI t ls vs u n lang = 0 then (foundF t.brs vs u n lang, 0) else (none, askI t ls vs u n lang)
noncomputable def effR (t : Tr) (ls : List ByteArray) (vs : List Val) (u n : Int) (wt : ByteArray) : Option Val × Int :=
  if askI t ls vs u n wt = 0 then (effF t.brs ls vs u n wt, 0) else (none, askI t ls vs u n wt)
def allF (t : Tr) (ls : List ByteArray) (vs : List Val) (u : Int) (wt : ByteArray) : List Val := ((List.range 8).map fun (i : Nat) => (i : Int) + 1).filterMap fun n => effF t.brs ls vs u n wt
noncomputable def allR (t : Tr) (ls : List ByteArray) (vs : List Val) (u : Int) (wt : ByteArray) : List Val × Int :=
  if askI t ls vs u 1 wt = 0 then (allF t ls vs u wt, 0) else ([], askI t ls vs u 1 wt)
/-- Whether a value repeats what its unit inherits. -/
def redB (t : Tr) (vs : List Val) (v : Val) : Bool := match brFind t.brs v.unit with
  | none => false
  | some b => (kindOf v.elem).inh && match foundF t.brs vs b.parent v.elem v.lang with
    | none => false
    | some w => w.text.toList == v.text.toList
def redF (t : Tr) (vs : List Val) : List Int := ((List.range vs.length).filter fun i => match vs[i]? with
  | none => false
  | some v => redB t vs v).map fun (i : Nat) => (i : Int)
noncomputable def redR (t : Tr) (ls : List ByteArray) (vs : List Val) : List Int × Int := if ofI t ls vs = 0 then (redF t vs, 0) else ([], 1)
noncomputable def reachR (t : Tr) (ls : List ByteArray) (vs : List Val) (u n : Int) (lang : ByteArray) : List Int × Int :=
  if askI t ls vs u n lang = 0 then (reachF t vs u n lang, 0) else ([], askI t ls vs u n lang)
noncomputable def gapsR (t : Tr) (ls : List ByteArray) (vs : List Val) (n : Int) : List Int × Int :=
  if ofI t ls vs ≠ 0 then ([], 1) else if numI n ≠ 0 then ([], 2) else (gapsF t ls vs n (ls.headD ⟨#[]⟩), 0)
theorem ofI_zero {t : Tr} {ls : List ByteArray} {vs : List Val} : ofI t ls vs = 0 ↔ RightT t ∧ RightV ls vs := by
  unfold ofI
  rw [← checkF_right]
  split
  · rename_i h
    exact ⟨fun _ => h, fun _ => rfl⟩
  · rename_i h
    exact ⟨fun k => absurd k (by decide), fun k => absurd k h⟩
theorem hasI_zero {t : Tr} {u : Int} : hasI t u = 0 ↔ ∃ b, brFind t.brs u = some b := by
  unfold hasI
  rw [← Option.isSome_iff_exists]
  split
  · rename_i h
    exact ⟨fun _ => h, fun _ => rfl⟩
  · rename_i h
    exact ⟨fun k => absurd k (by decide), fun k => absurd k h⟩
theorem numI_zero {n : Int} : numI n = 0 ↔ isEl n = true := by
  unfold numI
  split
  · rename_i h
    exact ⟨fun _ => h, fun _ => rfl⟩
  · rename_i h
    exact ⟨fun k => absurd k (by decide), fun k => absurd k h⟩
theorem lanI_zero {s : ByteArray} : lanI s = 0 ↔ isLangF s.data.toList = true := by
  unfold lanI
  split
  · rename_i h
    exact ⟨fun _ => h, fun _ => rfl⟩
  · rename_i h
    exact ⟨fun k => absurd k (by decide), fun k => absurd k h⟩
/-- A question without error. -/
theorem askI_zero {t : Tr} {ls : List ByteArray} {vs : List Val} {u n : Int} {lang : ByteArray} : askI t ls vs u n lang = 0 ↔ (RightT t ∧ RightV ls vs) ∧ (∃ b, brFind t.brs u = some b) ∧ isEl n = true ∧ isLangF lang.data.toList = true := by
  rw [← ofI_zero, ← hasI_zero, ← numI_zero, ← lanI_zero]
  unfold askI
  constructor
  · intro h
    by_cases h1 : ofI t ls vs = 0
    · by_cases h2 : hasI t u = 0
      · by_cases h3 : numI n = 0
        · by_cases h4 : lanI lang = 0
          · exact ⟨h1, h2, h3, h4⟩
          · simp [orF, h1, h2, h3, h4] at h
        · simp [orF, h1, h2, h3] at h
      · simp [orF, h1, h2] at h
    · simp [orF, h1] at h
  · rintro ⟨h1, h2, h3, h4⟩
    simp [orF, h1, h2, h3, h4]
end Go.Proofs.YtmbpeniaefpljaaGreatDoor

/- inherit: the errors of an element, a language, a unit; the first error. No condition but what a slice can be. -/
namespace Go.Proofs.YtmbpeniaefpljaaGreatDoor
open Go.RowKit

theorem word_empty (n : Int) : (kindOf n).word.toList.isEmpty = !isEl n := by
  by_cases h : isEl n = true
  · rcases isEl_cases h with rfl | rfl | rfl | rfl | rfl | rfl | rfl | rfl <;> decide +kernel
  · have hn : isEl n = false := by simpa using h
    have hk : kindOf n = kind0 := by
      unfold kindOf
      rw [hn]
      rfl
    rw [hk, hn]
    decide +kernel
theorem iNumber (n : Int) (w : World) : Calls Tryz.prog 46 #[.int .i64 n] w fun e w' => e = .returned (.int .i64 (numI n)) ∧ Grew w w' := by
  have hw := word_any n w
  have he := word_empty n
  generalize (kindOf n).word = wd at hw he
  unfold numI
  cases h : isEl n with
  | true =>
    rw [h] at he
    rw [if_pos rfl]
    have he2 : wd.toList.isEmpty = false := he
    go_enter Tryz.func46, Tryz.ntmps46
    go_wp2_with (go_at_call 74; refine hw.mono ?_; rintro e w1 ⟨rfl, g1⟩)
    go_ret
    exact ⟨rfl, g1⟩
  | false =>
    rw [h] at he
    rw [if_neg (by decide)]
    have he2 : wd.toList.isEmpty = true := he
    go_enter Tryz.func46, Tryz.ntmps46
    go_wp2_with (go_at_call 74; refine hw.mono ?_; rintro e w1 ⟨rfl, g1⟩)
    go_ret
    exact ⟨rfl, g1⟩
theorem iFirst1 (x : Int) (w : World) : Calls Tryz.prog 73 #[.int .i64 x] w fun e w' => e = .returned (.bool (x != 0)) ∧ Grew w w' := by
  go_enter Tryz.func73, Tryz.ntmps73
  go_wp2
  go_ret
  exact ⟨rfl, Grew.refl w⟩
theorem enters_iFirst1 : ∀ args w, (callFunc 73 args).run Tryz.prog w = .ok (.enter 73 args) w := enters_of Tryz.func73 (by kernel_rfl) rfl
theorem orF_noneI {l : List Int} (h : ∀ i (hi : i < l.length), (l[i] != 0) = false) : orF l = 0 := by
  induction l with
  | nil => rfl
  | cons x r ih =>
    have h0 := h 0 (by simp)
    simp only [List.getElem_cons_zero, bne_eq_false_iff_eq] at h0
    unfold orF
    rw [if_pos h0]
    exact ih fun i hi => by have := h (i + 1) (by simpa using hi); simpa using this
theorem orF_first {l : List Int} {k : Nat} (hk : k < l.length) (hx : (l[k] != 0) = true) (h : ∀ i (hi : i < l.length), i < k → (l[i] != 0) = false) : orF l = l[k] := by
  induction l generalizing k with
  | nil => exact absurd hk (Nat.not_lt_zero _)
  | cons x r ih =>
    unfold orF
    cases k with
    | zero =>
      simp only [List.getElem_cons_zero, bne_iff_ne, ne_eq] at hx
      rw [if_neg hx]
      rfl
    | succ k =>
      have h0 := h 0 (by simp) (by omega)
      simp only [List.getElem_cons_zero, bne_eq_false_iff_eq] at h0
      rw [if_pos h0]
      simp only [List.getElem_cons_succ] at hx ⊢
      exact ih (by simpa using hk) hx fun i hi hik => by have := h (i + 1) (by simpa using hi) (by omega); simpa using this
set_option maxHeartbeats 1000000 in
theorem iFirst (l : List Int) (v : Value) (w : World) (hv : SlI w v l) : Calls Tryz.prog 44 #[v] w fun e w' => e = .returned (.int .i64 (orF l)) ∧ Grew w w' := by
  have hix := indexFuncE l (fun x => x != 0) _ #[] enters_iFirst1 v w hv (fun W x _ _ => by rw [show (#[Value.int .i64 x] ++ #[] : Array Value) = #[.int .i64 x] by simp]; exact iFirst1 x W)
  obtain ⟨A, c, rfl, hlc, hc, hr⟩ := hv.open_
  by_cases hany : l.any (fun x => x != 0) = true
  · obtain ⟨m, hm, h1, h2⟩ := idxP_find (fun x => x != 0) l hany
    rw [idxP_hit (fun x => x != 0) l m hm h1 h2] at hix
    have hres := orF_first hm h1 h2
    generalize orF l = R at hres ⊢
    have HRES := Lib.hid hres
    have HIX := Lib.hid hix
    obtain ⟨b, off, rfl, hb, hcell⟩ := hr (by omega)
    have hlz : (m : Int) < (l.length : Int) := by omega
    have h0z : (0 : Int) ≤ (m : Int) := by omega
    have hnz : ¬ (m : Int) < 0 := by omega
    clear hany h1 h2 hres hix hv hr
    go_enter Tryz.func44, Tryz.ntmps44
    go_wp2_with fail
    refine HIX.out.mono ?_
    rintro e w1 ⟨rfl, g1⟩
    have c0 := hcell w1 g1 m hm
    generalize hy : l[m] = y at c0
    obtain rfl : R = y := HRES.out.trans hy
    clear hcell hy HRES
    dsimp only
    go_wp2
    go_ret
    exact ⟨rfl, g1⟩
  · have h2 : ∀ i (hi : i < l.length), (l[i] != 0) = false := fun i hi => by
      cases h : (l[i] != 0) with
      | false => rfl
      | true => exact absurd (List.any_eq_true.2 ⟨l[i], List.getElem_mem hi, h⟩) hany
    rw [idxP_miss (fun x => x != 0) l h2] at hix
    rw [orF_noneI h2]
    have HIX := Lib.hid hix
    clear hany h2 hix hv hr
    go_enter Tryz.func44, Tryz.ntmps44
    go_wp2_with fail
    refine HIX.out.mono ?_
    rintro e w1 ⟨rfl, g1⟩
    dsimp only
    go_wp2
    go_ret
    exact ⟨rfl, g1⟩
end Go.Proofs.YtmbpeniaefpljaaGreatDoor

/- inherit: whether a unit is there, the state of right arguments. The conditions: the library's own variables hold what they must; the lists are short. -/
namespace Go.Proofs.YtmbpeniaefpljaaGreatDoor
open Go.RowKit

theorem iLanguage (s : ByteArray) (w : World) : Calls Tryz.prog 47 #[.string s] w fun e w' => e = .returned (.int .i64 (lanI s)) ∧ Grew w w' := by
  unfold lanI
  by_cases h : s.size = 2
  · have hl : s.data.toList.length = 2 := by rw [← h]; cases s; rfl
    rw [← lang_trim _ hl]
    have hb : ((s.size : Int) != 2) = false := by simp; omega
    have hs : s.size ≤ 9223372036854775807 := by omega
    have ht := fun w => Tryz.strings_Trim s ⟨#[97, 98, 99, 100, 101, 102, 103, 104, 105, 106, 107, 108, 109, 110, 111, 112, 113, 114, 115, 116, 117, 118, 119, 120, 121, 122]⟩ w hs (by decide) ascii_az
    rw [azBA] at ht
    generalize Lib.trimS s.data.toList azL = T at ht ⊢
    have HT := Lib.hid ht
    clear ht hl h
    cases T with
    | nil =>
      rw [if_pos (by decide)]
      go_enter Tryz.func47, Tryz.ntmps47
      go_wp2_with (first | (go_at_call 75; refine (HT.out _).mono ?_; rintro e w1 ⟨rfl, hg⟩))
      go_ret
      exact ⟨rfl, hg⟩
    | cons a r =>
      rw [if_neg (by simp)]
      go_enter Tryz.func47, Tryz.ntmps47
      go_wp2_with (first | (go_at_call 75; refine (HT.out _).mono ?_; rintro e w1 ⟨rfl, hg⟩))
      go_ret
      exact ⟨rfl, hg⟩
  · have hl : s.data.toList.length ≠ 2 := by intro e; apply h; rw [← e]; cases s; rfl
    rw [lang_len _ hl]
    have hb : ((s.size : Int) != 2) = true := by simp; omega
    clear hl h
    go_enter Tryz.func47, Tryz.ntmps47
    go_wp2
    go_ret
    exact ⟨rfl, Grew.refl w⟩
set_option maxHeartbeats 1000000 in
theorem iHas (l : List Br) (u : Int) (rv bv lv vv : Value) (w : World) (hv : SlBr w bv l) : Calls Tryz.prog 45 #[.agg #[rv, bv, lv, vv], .int .i64 u] w fun e w' => e = .returned (.int .i64 (if (brFind l u).isSome = true then 0 else 7)) ∧ Grew w w' := by
  have kF := fun W (hW : Grew w W) => tFind l u rv bv W (hv.mono hW)
  unfold TFindEnd at kF
  generalize (brFind l u).getD br0 = f at kF
  have KF := Lib.hid kF
  clear kF hv
  cases hq : (brFind l u).isSome with
  | true =>
    rw [if_pos rfl]
    rw [hq] at KF
    go_enter Tryz.func45, Tryz.ntmps45
    go_wp2_with fail
    refine (KF.out _ ((Grew.refl w).alloc _)).mono ?_
    rintro e w1 ⟨rfl, g1⟩
    have HG := Lib.hid (((Grew.refl w).alloc _).trans g1)
    clear g1
    dsimp only
    go_wp2
    go_ret
    exact ⟨rfl, HG.out.alloc _⟩
  | false =>
    rw [if_neg (by decide)]
    rw [hq] at KF
    go_enter Tryz.func45, Tryz.ntmps45
    go_wp2_with fail
    refine (KF.out _ ((Grew.refl w).alloc _)).mono ?_
    rintro e w1 ⟨rfl, g1⟩
    have HG := Lib.hid (((Grew.refl w).alloc _).trans g1)
    clear g1
    dsimp only
    go_wp2
    go_ret
    exact ⟨rfl, HG.out.alloc _⟩
end Go.Proofs.YtmbpeniaefpljaaGreatDoor

/- inherit.of: the state of right arguments, or the error. The conditions: the library's own variables hold what they must; the lists are short. -/
namespace Go.Proofs.YtmbpeniaefpljaaGreatDoor
open Go.RowKit

theorem heap_newI (a : World) (p : Obj) : (a.alloc p).heap[a.heap.size]? = some p := World.alloc_heap_new a p
theorem heap_keepI {W W' : World} (g : Grew W W') {X : Nat} {o : Obj} (h : W.heap[X]? = some o) : W'.heap[X]? = some o := by
  have hx := (Array.getElem?_eq_some_iff.1 h).1
  exact (g.block X hx).trans h
theorem four_cells {W : World} {P : Nat} {t : TypeId} {x0 x1 x2 x3 : Value} (h : W.heap[P]? = some (.cells #[x0, x1, x2, x3] t (0, 0))) : (W.cell? ⟨P, 0, none⟩ = some x0 ∧ W.cell? ⟨P, 1, none⟩ = some x1 ∧ W.cell? ⟨P, 2, none⟩ = some x2 ∧ W.cell? ⟨P, 3, none⟩ = some x3) ∧ W.frozen? ⟨P, 0, none⟩ = false ∧ W.frozen? ⟨P, 1, none⟩ = false ∧ W.frozen? ⟨P, 2, none⟩ = false ∧ W.frozen? ⟨P, 3, none⟩ = false := by
  simp [World.cell?, World.frozen?, h]
theorem two_cells {W : World} {P : Nat} {t : TypeId} {x0 x1 : Value} (h : W.heap[P]? = some (.cells #[x0, x1] t (0, 0))) : W.cell? ⟨P, 0, none⟩ = some x0 ∧ W.cell? ⟨P, 1, none⟩ = some x1 := by
  simp [World.cell?, h]
/-- A box of four cells behind the store of a struct. -/
theorem res_four {W : World} {P : Nat} {v0 v1 v2 v3 x0 x1 x2 x3 : Value} (h0 : W.cell? ⟨P, 0, none⟩ = some x0) (h1 : W.cell? ⟨P, 1, none⟩ = some x1) (h2 : W.cell? ⟨P, 2, none⟩ = some x2) (h3 : W.cell? ⟨P, 3, none⟩ = some x3) :
    ((((W.setCell ⟨P, 0, none⟩ v0).setCell ⟨P, 1, none⟩ v1).setCell ⟨P, 2, none⟩ v2).setCell ⟨P, 3, none⟩ v3).cell? ⟨P, 0, none⟩ = some v0 ∧ ((((W.setCell ⟨P, 0, none⟩ v0).setCell ⟨P, 1, none⟩ v1).setCell ⟨P, 2, none⟩ v2).setCell ⟨P, 3, none⟩ v3).cell? ⟨P, 1, none⟩ = some v1 ∧ ((((W.setCell ⟨P, 0, none⟩ v0).setCell ⟨P, 1, none⟩ v1).setCell ⟨P, 2, none⟩ v2).setCell ⟨P, 3, none⟩ v3).cell? ⟨P, 2, none⟩ = some v2 ∧ ((((W.setCell ⟨P, 0, none⟩ v0).setCell ⟨P, 1, none⟩ v1).setCell ⟨P, 2, none⟩ v2).setCell ⟨P, 3, none⟩ v3).cell? ⟨P, 3, none⟩ = some v3 := by
  refine ⟨?_, ?_, ?_, ?_⟩
  · rw [World.cell?_setCell_other _ _ _ _ (by simp), World.cell?_setCell_other _ _ _ _ (by simp), World.cell?_setCell_other _ _ _ _ (by simp)]
    exact World.cell?_setCell_same' _ _ _ (by rw [h0]; rfl)
  · rw [World.cell?_setCell_other _ _ _ _ (by simp), World.cell?_setCell_other _ _ _ _ (by simp)]
    exact World.cell?_setCell_same' _ _ _ (by rw [World.cell?_setCell_other _ _ _ _ (by simp), h1]; rfl)
  · rw [World.cell?_setCell_other _ _ _ _ (by simp)]
    exact World.cell?_setCell_same' _ _ _ (by rw [World.cell?_setCell_other _ _ _ _ (by simp), World.cell?_setCell_other _ _ _ _ (by simp), h2]; rfl)
  · exact World.cell?_setCell_same' _ _ _ (by rw [World.cell?_setCell_other _ _ _ _ (by simp), World.cell?_setCell_other _ _ _ _ (by simp), World.cell?_setCell_other _ _ _ _ (by simp), h3]; rfl)
theorem grew_four {w W : World} {P : Nat} (g : Grew w W) (h : w.heap.size ≤ P) (v0 v1 v2 v3 : Value) : Grew w ((((W.setCell ⟨P, 0, none⟩ v0).setCell ⟨P, 1, none⟩ v1).setCell ⟨P, 2, none⟩ v2).setCell ⟨P, 3, none⟩ v3) := (((g.setCell h _).setCell h _).setCell h _).setCell h _
/-- What of returns: the state, or nothing and an error. -/
def RetSt (n : Int) (rv bv lv vv : Value) (w : World) (e : Ending) (w' : World) : Prop :=
  e = .returned (.tuple #[if n = 0 then .agg #[rv, bv, lv, vv] else .agg #[.slice none 0 0, .slice none 0 0, .slice none 0 0, .slice none 0 0], .int .i64 n]) ∧ Grew w w'
set_option maxHeartbeats 4000000 in
set_option maxRecDepth 100000 in
theorem iOf (t : Tr) (ls : List ByteArray) (vs : List Val) (rv bv lv vv : Value) (w : World) (hE : Env w) (hr : SlI w rv t.roots) (hv : SlBr w bv t.brs) (hf : FewBr t.brs) (hrl : t.roots.length ≤ 1000000) (hl : SlS w lv ls) (hvv : SlV w vv vs) :
    Calls Tryz.prog 43 #[.agg #[rv, bv], lv, vv] w (RetSt (ofI t ls vs) rv bv lv vv w) := by
  have KT := Lib.hid (fun W (hW : Grew w W) => tCheckX t.roots t.brs rv bv W (hE.mono hW) (hr.mono hW) (hv.mono hW) hf hrl)
  have kV := fun W (hW : Grew w W) => check_any ls vs lv vv W (hl.mono hW) (hvv.mono hW)
  have h1 : RightT t → (checkF ls vs).2 = 0 → ofI t ls vs = 0 := fun a b => by
    unfold ofI
    rw [if_pos ⟨a, b⟩]
  have h2 : ¬ (RightT t ∧ (checkF ls vs).2 = 0) → ofI t ls vs = 1 := fun a => by
    unfold ofI
    rw [if_neg a]
  generalize ofI t ls vs = N at h1 h2 ⊢
  generalize checkF ls vs = CV at kV h1 h2
  obtain ⟨c1, c2⟩ := CV
  dsimp only at kV h1 h2
  have H1 := Lib.hid h1
  have H2 := Lib.hid h2
  have KV := Lib.hid kV
  obtain ⟨Ar, cr, rfl, -⟩ := hr.open_
  obtain ⟨Ab, cb, rfl, -⟩ := hv.open_
  obtain ⟨Al, cl, rfl, -⟩ := hl.open_
  obtain ⟨Av, cv, rfl, -⟩ := hvv.open_
  clear kV h1 h2 hE hr hv hf hrl hl hvv
  have HB := Lib.hid (show ∀ W, Grew ((w.alloc (.cells [.slice Ar t.roots.length cr, .slice Ab t.brs.length cb].toArray 25)).alloc (.cells [.slice none 0 0, .slice none 0 0, .slice none 0 0, .slice none 0 0].toArray 68)) W → W.heap[w.heap.size]? = some (.cells #[.slice Ar t.roots.length cr, .slice Ab t.brs.length cb] 25 (0, 0)) ∧ W.heap[w.heap.size + 1]? = some (.cells #[.slice none 0 0, .slice none 0 0, .slice none 0 0, .slice none 0 0] 68 (0, 0)) from fun W g => by
    have e1 := heap_newI w (.cells [.slice Ar t.roots.length cr, .slice Ab t.brs.length cb].toArray 25)
    have e2 := heap_newI (w.alloc (.cells [.slice Ar t.roots.length cr, .slice Ab t.brs.length cb].toArray 25)) (.cells [.slice none 0 0, .slice none 0 0, .slice none 0 0, .slice none 0 0].toArray 68)
    rw [World.size_alloc] at e2
    exact ⟨heap_keepI (((Grew.refl _).alloc _).trans g) e1, heap_keepI g e2⟩)
  have GA := Lib.hid (((Grew.refl w).alloc (.cells [.slice Ar t.roots.length cr, .slice Ab t.brs.length cb].toArray 25)).alloc (.cells [.slice none 0 0, .slice none 0 0, .slice none 0 0, .slice none 0 0].toArray 68))
  go_enter Tryz.func43, Tryz.ntmps43
  go_wp2_with fail
  generalize (w.alloc (.cells [.slice Ar t.roots.length cr, .slice Ab t.brs.length cb].toArray 25)).alloc (.cells [.slice none 0 0, .slice none 0 0, .slice none 0 0, .slice none 0 0].toArray 68) = WA at GA HB ⊢
  refine (KT.out _ GA.out).mono ?_
  rintro e w1 ⟨i1, n1, rfl, hn1, -, -, g1⟩
  have G1 := Lib.hid g1
  have HN1 := Lib.hid hn1
  clear g1 hn1
  dsimp only
  go_wp2_with fail
  refine (KV.out _ (GA.out.trans G1.out)).mono ?_
  rintro e w2 ⟨rfl, g2⟩
  have G2 := Lib.hid (G1.out.trans g2)
  have HG2 := Lib.hid (GA.out.trans G2.out)
  obtain ⟨x0, x1⟩ := two_cells (HB.out w2 G2.out).1
  obtain ⟨⟨q0, q1, q2, q3⟩, z0, z1, z2, z3⟩ := four_cells (HB.out w2 G2.out).2
  clear g2 G1 KT KV
  dsimp only
  by_cases hz : n1 = 0 ∧ c2 = 0
  · obtain ⟨rfl, rfl⟩ := hz
    obtain rfl := H1.out (HN1.out.1 rfl) rfl
    clear HN1 H1 H2
    go_wp2_with fail
    obtain ⟨p0, p1, p2, p3⟩ := res_four (v0 := .slice Ar t.roots.length cr) (v1 := .slice Ab t.brs.length cb) (v2 := .slice Al ls.length cl) (v3 := .slice Av vs.length cv) q0 q1 q2 q3
    refine bodyPost_ret (v := .tuple #[.agg #[.slice Ar t.roots.length cr, .slice Ab t.brs.length cb, .slice Al ls.length cl, .slice Av vs.length cv], .int .i64 0]) (by simp [results, Tryz.results43, go_sem, p0, p1, p2, p3]) rfl ?_
    exact ⟨rfl, grew_four HG2.out (by omega) _ _ _ _⟩
  · obtain rfl := H2.out (fun h => hz ⟨HN1.out.2 h.1, h.2⟩)
    have hcase : (n1 != 0) = true ∨ ((n1 != 0) = false ∧ (c2 != 0) = true) := by
      by_cases h : n1 = 0
      · exact .inr ⟨by simpa using h, by simpa using fun h2 => hz ⟨h, h2⟩⟩
      · exact .inl (by simpa using h)
    clear HN1 H1 H2 hz
    rcases hcase with hb | ⟨hb, hc⟩
    · go_wp2_with fail
      obtain ⟨p0, p1, p2, p3⟩ := res_four (v0 := .slice none 0 0) (v1 := .slice none 0 0) (v2 := .slice none 0 0) (v3 := .slice none 0 0) q0 q1 q2 q3
      refine bodyPost_ret (v := .tuple #[.agg #[.slice none 0 0, .slice none 0 0, .slice none 0 0, .slice none 0 0], .int .i64 1]) (by simp [results, Tryz.results43, go_sem, p0, p1, p2, p3]) rfl ?_
      exact ⟨rfl, grew_four HG2.out (by omega) _ _ _ _⟩
    · go_wp2_with fail
      obtain ⟨p0, p1, p2, p3⟩ := res_four (v0 := .slice none 0 0) (v1 := .slice none 0 0) (v2 := .slice none 0 0) (v3 := .slice none 0 0) q0 q1 q2 q3
      refine bodyPost_ret (v := .tuple #[.agg #[.slice none 0 0, .slice none 0 0, .slice none 0 0, .slice none 0 0], .int .i64 1]) (by simp [results, Tryz.results43, go_sem, p0, p1, p2, p3]) rfl ?_
      exact ⟨rfl, grew_four HG2.out (by omega) _ _ _ _⟩
end Go.Proofs.YtmbpeniaefpljaaGreatDoor
