/- Lemmas on what the functions of the program and of the library compute: PlainDn, PlainDs, PlainDt, DelW, Del2, N1, SearV, N2. The conditions stand at each. -/
import Derived.Test.YtjaknioojpgkiaaGreatDoorQ32
import Derived.Test.YtjaknioojpgkiaaGreatDoorQ35
import Derived.Test.YtjaknioojpgkiaaGreatDoorQ16
import Derived.Test.YtjaknioojpgkiaaGreatDoorQ4
import Derived.Test.YtjaknioojpgkiaaGreatDoorProg
import Derived.Test.YtjaknioojpgkiaaGreatDoorQ1
import Derived.Test.YtjaknioojpgkiaaGreatDoorQ7
import Derived.Test.YtjaknioojpgkiaaGreatDoorQ22
import Derived.Test.YtjaknioojpgkiaaGreatDoorQ27
import Derived.Test.YtjaknioojpgkiaaGreatDoorQ3
import Derived.Test.YtjaknioojpgkiaaGreatDoorQ8
import Derived.Test.YtjaknioojpgkiaaGreatDoorQ34
import Derived.Test.YtjaknioojpgkiaaGreatDoorQ9
/- The normal form of values, plainly: what is left out, what each unit has in it, and that it is its own. No condition. -/
namespace Go.Proofs.YtjaknioojpgkiaaGreatDoor
open Go.RowKit

/-- The values that repeat nothing. -/
def normF (t : Tr) (vs : List Val) : List Val := vs.filter fun v => !redB t vs v
theorem normF_sub (t : Tr) (vs : List Val) : (normF t vs).Sublist vs := List.filter_sublist
theorem normF_right {t : Tr} {ls : List ByteArray} {vs : List Val} (h : RightV ls vs) : RightV ls (normF t vs) := h.part (normF_sub t vs)
/-- The value of its own that a unit has among some of the values. -/
theorem get_filter {ls : List ByteArray} {vs : List Val} (hR : RightV ls vs) (p : Val → Bool) {v : Val} (hv : v ∈ vs) : getF (vs.filter p) v.unit v.elem v.lang = if p v then some v.text else none := by
  by_cases hp : p v = true
  · rw [if_pos hp]
    exact getF_each (hR.part List.filter_sublist) v (List.mem_filter.2 ⟨hv, hp⟩)
  · rw [if_neg hp]
    unfold getF
    rw [Option.map_eq_none_iff, List.find?_eq_none]
    intro y hy hq
    obtain ⟨h1, h2⟩ := List.mem_filter.1 hy
    simp only [getP, Bool.and_eq_true, beq_iff_eq] at hq
    have := pairwise_key hR.2.2.2 h1 hv hq.1 hq.2.1 (bytes_inj hq.2.2)
    rw [this] at h2
    exact hp h2
theorem get_none_filter {vs : List Val} (p : Val → Bool) {u n : Int} {lang : ByteArray} (h : getF vs u n lang = none) : getF (vs.filter p) u n lang = none := by
  unfold getF at h ⊢
  rw [Option.map_eq_none_iff, List.find?_eq_none] at h ⊢
  exact fun y hy => h y (List.mem_filter.1 hy).1
theorem get_there {vs : List Val} {u n : Int} {lang s : ByteArray} (h : getF vs u n lang = some s) : (⟨u, n, lang, s⟩ : Val) ∈ vs := by
  obtain ⟨x, hx, h1, h2, h3, h4⟩ := get_lang h
  obtain ⟨a, b, c, d⟩ := x
  dsimp only at h1 h2 h3 h4
  subst h1 h2 h3 h4
  exact hx
theorem redB_at {t : Tr} {vs : List Val} {v : Val} {b : Br} (hb : brFind t.brs v.unit = some b) : redB t vs v = ((kindOf v.elem).inh && sameT v.text (foundF t.brs vs b.parent v.elem v.lang)) := by
  rw [redB_ref, hb]
  rfl
theorem sameT_text {yt : ByteArray} {a b : Option Val} (h : a.map (·.text) = b.map (·.text)) : sameT yt a = sameT yt b := by
  cases a <;> cases b <;> simp_all [sameT]
/-- In the normal form each unit has the same texts. -/
theorem norm_found {t : Tr} (hT : RightT t) {ls : List ByteArray} {vs : List Val} (hR : RightV ls vs) (n : Int) (lang : ByteArray) : ∀ (k : Nat) (u : Int), (wayL t.brs u).length ≤ k → (foundF t.brs (normF t vs) u n lang).map (·.text) = (foundF t.brs vs u n lang).map (·.text) := by
  intro k
  induction k with
  | zero =>
    intro u hk
    have : wayL t.brs u = [] := List.eq_nil_of_length_eq_zero (by omega)
    unfold foundF
    rw [this]
    rfl
  | succ k ih =>
    intro u hk
    cases hu : brFind t.brs u with
    | none =>
      unfold foundF
      rw [wayL_none hu]
      rfl
    | some c =>
      have hstep := wayL_step hT hu
      rw [hstep] at hk
      have hup := ih c.parent (by simp only [List.length_cons] at hk; omega)
      rw [found_step hT hu, found_step hT hu]
      cases hg : getF vs u n lang with
      | none =>
        have h1 : ownV vs n lang u = none := own_none.2 hg
        have h2 : ownV (normF t vs) n lang u = none := own_none.2 (get_none_filter _ hg)
        rw [h1, h2]
        dsimp only
        cases hi : (kindOf n).inh with
        | false => rfl
        | true => exact hup
      | some s =>
        have hm := get_there hg
        have h1 : ownV vs n lang u = some ⟨u, n, lang, s⟩ := by unfold ownV; rw [hg]; rfl
        have h2 := get_filter hR (fun v => !redB t vs v) hm
        dsimp only at h2
        have hrb := redB_at (t := t) (vs := vs) (v := ⟨u, n, lang, s⟩) hu
        rw [h1]
        cases hq : redB t vs ⟨u, n, lang, s⟩ with
        | false =>
          rw [hq] at h2
          have h3 : ownV (normF t vs) n lang u = some ⟨u, n, lang, s⟩ := by unfold ownV normF; rw [h2]; rfl
          rw [h3]
        | true =>
          rw [hq] at h2 hrb
          have h3 : ownV (normF t vs) n lang u = none := own_none.2 (by unfold normF; rw [h2]; rfl)
          rw [h3]
          dsimp only at hrb ⊢
          have hrb2 := hrb.symm
          rw [Bool.and_eq_true] at hrb2
          obtain ⟨hi, hs⟩ := hrb2
          rw [if_pos hi, hup]
          cases hf : foundF t.brs vs c.parent n lang with
          | none => rw [hf] at hs; cases hs
          | some w =>
            rw [hf] at hs
            have := bytes_inj (beq_iff_eq.1 (show (w.text.toList == s.toList) = true from hs))
            simp [this]
theorem norm_text {t : Tr} (hT : RightT t) {ls : List ByteArray} {vs : List Val} (hR : RightV ls vs) (n : Int) (lang : ByteArray) (u : Int) : (foundF t.brs (normF t vs) u n lang).map (·.text) = (foundF t.brs vs u n lang).map (·.text) := norm_found hT hR n lang _ u (Nat.le_refl _)
theorem norm_red {t : Tr} (hT : RightT t) {ls : List ByteArray} {vs : List Val} (hR : RightV ls vs) (v : Val) : redB t (normF t vs) v = redB t vs v := by
  rw [redB_ref, redB_ref, sameT_text (norm_text hT hR _ _ _)]
theorem norm_none {t : Tr} (hT : RightT t) {ls : List ByteArray} {vs : List Val} (hR : RightV ls vs) {v : Val} (hv : v ∈ normF t vs) : redB t (normF t vs) v = false := by
  rw [norm_red hT hR]
  simpa using (List.mem_filter.1 hv).2
/-- What a unit reads: its effective values but from where. -/
def readT (v : Val) : Int × ByteArray × ByteArray := (v.elem, v.lang, v.text)
end Go.Proofs.YtjaknioojpgkiaaGreatDoor

/- A value put in its place among right values, plainly. No condition. -/
namespace Go.Proofs.YtjaknioojpgkiaaGreatDoor
open Go.RowKit

theorem cb_one : ∀ a b : List UInt8, Lib.compareBytes a b = 1 → Lib.compareBytes b a = -1
  | [], [], h => by simp [Lib.compareBytes] at h
  | [], _ :: _, h => by simp [Lib.compareBytes] at h
  | _ :: _, [], _ => by simp [Lib.compareBytes]
  | a :: x, b :: y, h => by
    have ih := cb_one x y
    rw [Lib.compareBytes] at h ⊢
    by_cases h1 : a < b
    · simp [h1] at h
    · by_cases h2 : b < a
      · simp [h2]
      · simp only [h1, h2, if_false] at h ⊢
        exact ih h
def sameK (a b : Val) : Prop := a.unit = b.unit ∧ a.elem = b.elem ∧ a.lang = b.lang
theorem ltV_tri (a b : Val) : ltV a b ∨ sameK a b ∨ ltV b a := by
  unfold ltV sameK cbLt
  rcases Int.lt_trichotomy a.unit b.unit with h | h | h
  · exact .inl (.inl h)
  · rcases Int.lt_trichotomy a.elem b.elem with k | k | k
    · exact .inl (.inr ⟨h, .inl k⟩)
    · rcases cb_three a.lang.data.toList b.lang.data.toList with c | c | c
      · exact .inl (.inr ⟨h, .inr ⟨k, c⟩⟩)
      · refine .inr (.inl ⟨h, k, ?_⟩)
        have := (cb_eq _ _).1 c
        cases ha : a.lang with
        | mk da =>
          cases hb : b.lang with
          | mk db =>
            rw [ha, hb] at this
            exact congrArg ByteArray.mk (Array.toList_inj.1 this)
      · exact .inr (.inr (.inr ⟨h.symm, .inr ⟨k.symm, cb_one _ _ c⟩⟩))
    · exact .inr (.inr (.inr ⟨h.symm, .inl k⟩))
  · exact .inr (.inr (.inl h))
theorem ltV_irr {a b : Val} (h : sameK a b) : ¬ ltV a b := fun k => ltV_key k h.1 h.2.1 h.2.2
theorem ltV_asym {a b : Val} (h : ltV a b) : ¬ ltV b a := fun k => ltV_irr ⟨rfl, rfl, rfl⟩ (ltV_trans h k)
theorem ltV_left {a b c : Val} (h : sameK a b) (k : ltV a c) : ltV b c := by
  unfold ltV at k ⊢
  rw [← h.1, ← h.2.1, ← h.2.2]
  exact k
theorem sameK.symm {a b : Val} (h : sameK a b) : sameK b a := ⟨h.1.symm, h.2.1.symm, h.2.2.symm⟩
theorem lessV_no {a b : Val} (h : ¬ ltV a b) : lessV a b = false := by
  cases k : lessV a b with
  | false => rfl
  | true => exact absurd ((lessV_ltV a b).1 k) h
theorem lessV_yes {a b : Val} (h : ltV a b) : lessV a b = true := (lessV_ltV a b).2 h
/-- The values with one more, in its place, or instead of the one of its unit, element and language. -/
def putV (v : Val) (vs : List Val) : List Val := vs.filter (fun x => lessV x v) ++ v :: vs.filter (fun x => lessV v x)
/-- Right values are those before, the one of this key, and those behind. -/
theorem put_split (v : Val) : ∀ {vs : List Val}, vs.Pairwise ltV → (∃ x, sameK x v ∧ vs = vs.filter (fun x => lessV x v) ++ x :: vs.filter (fun x => lessV v x)) ∨ ((∀ x ∈ vs, ¬ sameK x v) ∧ vs = vs.filter (fun x => lessV x v) ++ vs.filter (fun x => lessV v x))
  | [], _ => .inr ⟨(fun _ h => by cases h), rfl⟩
  | a :: r, h => by
    rw [List.pairwise_cons] at h
    obtain ⟨h1, h2⟩ := h
    rcases ltV_tri a v with k | k | k
    · have e1 : lessV a v = true := lessV_yes k
      have e2 : lessV v a = false := lessV_no (ltV_asym k)
      rw [List.filter_cons_of_pos (by simpa using e1), List.filter_cons_of_neg (by simp [e2])]
      rcases put_split v h2 with ⟨x, hx, e⟩ | ⟨hn, e⟩
      · exact .inl ⟨x, hx, by rw [List.cons_append, ← e]⟩
      · refine .inr ⟨fun x hx => ?_, by rw [List.cons_append, ← e]⟩
        rcases List.mem_cons.1 hx with rfl | hx
        · exact fun s => ltV_irr s k
        · exact hn x hx
    · have hb : ∀ y ∈ r, ltV v y := fun y hy => ltV_left k (h1 y hy)
      have e1 : r.filter (fun x => lessV x v) = [] := List.filter_eq_nil_iff.2 fun y hy => by rw [lessV_no (ltV_asym (hb y hy))]; decide
      have e2 : r.filter (fun x => lessV v x) = r := List.filter_eq_self.2 fun y hy => lessV_yes (hb y hy)
      rw [List.filter_cons_of_neg (by rw [lessV_no (ltV_irr k)]; decide), List.filter_cons_of_neg (by rw [lessV_no (ltV_irr k.symm)]; decide), e1, e2]
      exact .inl ⟨a, k, rfl⟩
    · have hb : ∀ y ∈ r, ltV v y := fun y hy => ltV_trans k (h1 y hy)
      have e1 : r.filter (fun x => lessV x v) = [] := List.filter_eq_nil_iff.2 fun y hy => by rw [lessV_no (ltV_asym (hb y hy))]; decide
      have e2 : r.filter (fun x => lessV v x) = r := List.filter_eq_self.2 fun y hy => lessV_yes (hb y hy)
      rw [List.filter_cons_of_neg (by rw [lessV_no (ltV_asym k)]; decide), List.filter_cons_of_pos (by simpa using lessV_yes k), e1, e2]
      refine .inr ⟨fun x hx => ?_, rfl⟩
      rcases List.mem_cons.1 hx with rfl | hx
      · exact fun s => ltV_irr s.symm k
      · exact fun s => ltV_irr s.symm (hb x hx)
theorem put_right {ls : List ByteArray} {vs : List Val} {v : Val} (hR : RightV ls vs) (hg : goodV ls v) (hl : (putV v vs).length ≤ 1024) : RightV ls (putV v vs) := by
  refine ⟨hR.1, hl, fun x hx => ?_, ?_⟩
  · unfold putV at hx
    rcases List.mem_append.1 hx with h | h
    · exact hR.2.2.1 x (List.mem_filter.1 h).1
    · rcases List.mem_cons.1 h with rfl | h
      · exact hg
      · exact hR.2.2.1 x (List.mem_filter.1 h).1
  · unfold putV
    rw [List.pairwise_append, List.pairwise_cons]
    refine ⟨hR.2.2.2.filter _, ⟨fun y hy => (lessV_ltV _ _).1 (List.mem_filter.1 hy).2, hR.2.2.2.filter _⟩, fun x hx y hy => ?_⟩
    have h1 := (lessV_ltV _ _).1 (List.mem_filter.1 hx).2
    rcases List.mem_cons.1 hy with rfl | hy
    · exact h1
    · exact ltV_trans h1 ((lessV_ltV _ _).1 (List.mem_filter.1 hy).2)
theorem put_mem {v x : Val} {vs : List Val} (hx : x ∈ vs) (hn : ¬ sameK x v) : x ∈ putV v vs := by
  unfold putV
  rcases ltV_tri x v with k | k | k
  · exact List.mem_append.2 (.inl (List.mem_filter.2 ⟨hx, lessV_yes k⟩))
  · exact absurd k hn
  · exact List.mem_append.2 (.inr (List.mem_cons_of_mem _ (List.mem_filter.2 ⟨hx, lessV_yes k⟩)))
theorem mem_put {v x : Val} {vs : List Val} (hx : x ∈ putV v vs) : x = v ∨ (x ∈ vs ∧ ¬ sameK x v) := by
  unfold putV at hx
  rcases List.mem_append.1 hx with h | h
  · have := (List.mem_filter.1 h)
    exact .inr ⟨this.1, fun s => ltV_irr s ((lessV_ltV _ _).1 this.2)⟩
  · rcases List.mem_cons.1 h with rfl | h
    · exact .inl rfl
    · have := (List.mem_filter.1 h)
      exact .inr ⟨this.1, fun s => ltV_irr s.symm ((lessV_ltV _ _).1 this.2)⟩
end Go.Proofs.YtjaknioojpgkiaaGreatDoor

/- What the functions of describe that change values return, plainly; the place of a value in right values. No condition. -/
namespace Go.Proofs.YtjaknioojpgkiaaGreatDoor
open Go.RowKit

noncomputable def normR (t : Tr) (ls : List ByteArray) (vs : List Val) : List Val × Int := if ofI t ls vs = 0 then (normF t vs, 0) else ([], 1)
/-- The error of a value that is to be set; the tree, languages and values are right. -/
def valE (t : Tr) (ls : List ByteArray) (vs : List Val) (v : Val) : Int := match brFind t.brs v.unit with
  | none => 7
  | some b => if isEl v.elem = false then 2 else if allowedF v.elem b.level = false then 18 else if inL ls v.lang = false then 10 else if isTextF v.text.data.toList = false then 3
    else if b.parent = 0 ∨ (kindOf v.elem).inh = false then 0 else if sameT v.text (foundF t.brs vs b.parent v.elem v.lang) = true then 6 else 0
noncomputable def setR (t : Tr) (ls : List ByteArray) (vs : List Val) (v : Val) : List Val × Int :=
  if ofI t ls vs ≠ 0 then ([], 1) else if valE t ls vs v ≠ 0 then ([], valE t ls vs v) else if 1024 < (putV v vs).length then ([], 8) else (normF t (putV v vs), 0)
/-- The values but the one of a unit, an element and a language. -/
def dropV (v : Val) (vs : List Val) : List Val := vs.filter fun x => lessV x v || lessV v x
noncomputable def clearR (t : Tr) (ls : List ByteArray) (vs : List Val) (v : Val) : List Val × Int :=
  if ofI t ls vs ≠ 0 then ([], 1) else if (dropV v vs).length = vs.length then ([], 7) else (normF t (dropV v vs), 0)
theorem valE_good {t : Tr} (hT : RightT t) {ls : List ByteArray} {vs : List Val} {v : Val} (h : valE t ls vs v = 0) : goodV ls v ∧ ∃ b, brFind t.brs v.unit = some b := by
  unfold valE at h
  cases hb : brFind t.brs v.unit with
  | none => rw [hb] at h; cases h
  | some b =>
    rw [hb] at h
    dsimp only at h
    obtain ⟨hin, hid⟩ := find_in hb
    have hw : 1 ≤ b.id ∧ b.id ≤ 1073741824 := by
      have := ((right_sound hT).units b hin).1
      simpa [within] using this
    by_cases h1 : isEl v.elem = false
    · rw [if_pos h1] at h; cases h
    rw [if_neg h1] at h
    by_cases h2 : allowedF v.elem b.level = false
    · rw [if_pos h2] at h; cases h
    rw [if_neg h2] at h
    by_cases h3 : inL ls v.lang = false
    · rw [if_pos h3] at h; cases h
    rw [if_neg h3] at h
    by_cases h4 : isTextF v.text.data.toList = false
    · rw [if_pos h4] at h; cases h
    exact ⟨⟨by omega, by omega, by simpa using h1, by simpa using h3, by simpa using h4⟩, b, rfl⟩
theorem orderV_zero (a b : Val) : orderV a b = 0 ↔ sameK a b := by
  have hlt := orderV_lt a b
  constructor
  · intro h
    rcases ltV_tri a b with k | k | k
    · have := hlt.2 k
      omega
    · exact k
    · exfalso
      unfold ltV cbLt at k
      unfold orderV at h
      simp only [orF, Lib.compareInt] at h
      rcases k with k | ⟨k1, k | ⟨k2, k⟩⟩
      · have h1 : ¬ a.unit < b.unit := by omega
        have h2 : a.unit > b.unit := k
        simp [h1, h2] at h
      · have h1 : ¬ a.elem < b.elem := by omega
        have h2 : a.elem > b.elem := k
        simp [k1, h1, h2] at h
      · have h3 : Lib.compareBytes a.lang.data.toList b.lang.data.toList ≠ 0 := fun e => by
          rw [(cb_eq _ _).1 e, (cb_eq _ _).2 rfl] at k
          cases k
        simp [k1, k2, h3] at h
  · rintro ⟨h1, h2, h3⟩
    unfold orderV
    simp [orF, Lib.compareInt, h1, h2, h3, (cb_eq _ _).2]
/-- Where a value stands among right values, or would stand. -/
theorem put_passes (v : Val) : ∀ {vs : List Val}, vs.Pairwise ltV → passes (fun y => decide (orderV y v < 0)) vs = (vs.filter fun x => lessV x v).length
  | [], _ => rfl
  | a :: r, h => by
    rw [List.pairwise_cons] at h
    obtain ⟨h1, h2⟩ := h
    have ih := put_passes v h2
    unfold passes at ih ⊢
    by_cases k : ltV a v
    · have e1 : lessV a v = true := lessV_yes k
      rw [List.filter_cons_of_pos (by simpa using e1), List.takeWhile_cons_of_pos (by simpa using (orderV_lt a v).2 k), List.length_cons, List.length_cons, ih]
    · have e1 : lessV a v = false := lessV_no k
      have e2 : r.filter (fun x => lessV x v) = [] := List.filter_eq_nil_iff.2 fun y hy => by
        rw [lessV_no (fun q => k (ltV_trans (h1 y hy) q))]
        decide
      rw [List.filter_cons_of_neg (by rw [e1]; decide), List.takeWhile_cons_of_neg (by simpa using fun q => k ((orderV_lt a v).1 q)), e2]
theorem ins_mid {α : Type} (x : α) : ∀ (F G : List α), (F ++ G).insertIdx F.length x = F ++ x :: G
  | [], G => by simp
  | a :: F, G => by simp [List.insertIdx_succ_cons, ins_mid x F G]
/-- The place of a value, and whether its key is there: then setting it there, else inserting it there, gives the values with it. -/
theorem put_hit {vs : List Val} (hs : vs.Pairwise ltV) (v : Val) :
    (hitB (fun y => decide (orderV y v = 0)) vs (vs.filter fun x => lessV x v).length = true ∧ (vs.filter fun x => lessV x v).length < vs.length ∧ vs.set (vs.filter fun x => lessV x v).length v = putV v vs ∧ vs.eraseIdx (vs.filter fun x => lessV x v).length = dropV v vs ∧ (dropV v vs).length + 1 = vs.length) ∨
    (hitB (fun y => decide (orderV y v = 0)) vs (vs.filter fun x => lessV x v).length = false ∧ vs.insertIdx (vs.filter fun x => lessV x v).length v = putV v vs ∧ (vs.filter fun x => lessV x v).length ≤ vs.length ∧ dropV v vs = vs) := by
  have hd : dropV v vs = vs.filter (fun x => lessV x v) ++ vs.filter (fun x => lessV v x) := by
    unfold dropV
    rcases put_split v hs with ⟨x, hx, e⟩ | ⟨hn, e⟩
    · have hx1 : lessV x v = false := lessV_no (ltV_irr hx)
      have hx2 : lessV v x = false := lessV_no (ltV_irr hx.symm)
      conv => lhs; rw [e]
      rw [List.filter_append, List.filter_cons_of_neg (by simp [hx1, hx2])]
      congr 1
      · exact List.filter_eq_self.2 fun y hy => by rw [(List.mem_filter.1 hy).2]; rfl
      · exact List.filter_eq_self.2 fun y hy => by rw [(List.mem_filter.1 hy).2]; simp
    · conv => lhs; rw [e]
      rw [List.filter_append]
      congr 1
      · exact List.filter_eq_self.2 fun y hy => by rw [(List.mem_filter.1 hy).2]; rfl
      · exact List.filter_eq_self.2 fun y hy => by rw [(List.mem_filter.1 hy).2]; simp
  rcases put_split v hs with ⟨x, hx, e⟩ | ⟨hn, e⟩
  · refine .inl ?_
    generalize hF : vs.filter (fun x => lessV x v) = F at e hd ⊢
    generalize hG : vs.filter (fun x => lessV v x) = G at e hd
    unfold putV
    rw [hF, hG, hd]
    subst e
    refine ⟨?_, by simp, by simp, ?_, by simp; omega⟩
    · unfold hitB
      simp [(orderV_zero x v).2 hx]
    · rw [List.eraseIdx_append_of_length_le (Nat.le_refl _)]
      simp
  · refine .inr ?_
    have hall := hn
    generalize hF : vs.filter (fun x => lessV x v) = F at e hd ⊢
    generalize hG : vs.filter (fun x => lessV v x) = G at e hd
    unfold putV
    rw [hF, hG, hd]
    subst e
    refine ⟨?_, ?_, by simp, rfl⟩
    · unfold hitB
      cases hG2 : G with
      | nil => simp
      | cons y r =>
        have := hall y (by rw [hG2]; simp)
        have h2 : ¬ orderV y v = 0 := fun q => this ((orderV_zero y v).1 q)
        simp [h2]
    · exact ins_mid v F G
theorem drop_right {ls : List ByteArray} {vs : List Val} (v : Val) (h : RightV ls vs) : RightV ls (dropV v vs) := h.part List.filter_sublist
end Go.Proofs.YtjaknioojpgkiaaGreatDoor

/- slices.DeleteFunc at values, on a row of the call's own, the function that is handed over writing one older box: it is asked once for each value, in order. No condition but that this function answers as p does. -/
namespace Go.Proofs.YtjaknioojpgkiaaGreatDoor
open Go.RowKit

theorem own_grownB {w w' : World} {base B : Nat} {e : TypeId} {k : Nat} {v : Value} {n : Nat} {xs : List Value} (h : w.ownsRow base e k v n xs) (hB : B < base) (hg : w.grownBy w' (some B)) : w'.ownsRow base e k v n xs := by
  refine ⟨h.1, ?_⟩
  rcases h.2 with h1 | ⟨g, cap, cur, hv, hb, hh, r⟩
  · exact .inl h1
  · refine .inr ⟨g, cap, cur, hv, hb, ?_, r⟩
    rw [hg.block g]
    · exact hh
    · rcases Nat.lt_or_ge g w.heap.size with hlt | hge
      · exact hlt
      · rw [Array.getElem?_eq_none hge] at hh; cases hh
    · intro e
      injection e with e
      omega
theorem cell_grownB {w w' : World} {B : Nat} {a : Addr} {v : Value} (h : w.cell? a = some v) (hB : a.block ≠ B) (hg : w.grownBy w' (some B)) : w'.cell? a = some v :=
  (World.cell?_of_block (hg.block a.block (World.block_lt_of_cell? w _ h) (fun e => hB (by injection e)))).trans h
set_option maxHeartbeats 1000000 in
/-- slices.IndexFunc at values, the function that is handed over writing a box. -/
theorem indexFuncVE (l : List Val) (p : Val → Bool) (g : Nat) (lb : Array Value) (eg : ∀ args w, (callFunc g args).run Tryz.prog w = .ok (.enter g args) w) (base B : Nat) (hB : B < base) (v : Value) (w : World)
    (hown : w.ownsRow base 29 4 v l.length (l.flatMap Val.cells)) (R : Nat → World → Prop) (hR0 : R 0 w)
    (hp : ∀ i (hi : i < l.length) W, R i W → Calls Tryz.prog g (#[l[i].agg] ++ lb) W fun e w' => e = .returned (.bool (p l[i])) ∧ R (i + 1) w' ∧ W.grownBy w' (some B)) :
    Calls Tryz.prog 87 #[v, .func (.func g) #[] lb] w fun e w' => e = .returned (.int .i64 (idxP p l)) ∧ (idxP p l = -1 → R l.length w') ∧ (∀ m : Nat, idxP p l = (m : Int) → R (m + 1) w') ∧ w.grownBy w' (some B) := by
  have HO := Lib.hid hown
  obtain ⟨A, c, hve⟩ := own_slice hown
  have hc : l.length ≤ maxLen := by
    obtain ⟨A2, c2, hv2, hlc2, hc2, -⟩ := (show SlV w v l from Rd.of_own hown).open_
    omega
  subst hve
  unfold maxLen at hc
  have HP := Lib.hid hp
  have HR0 := Lib.hid hR0
  clear hp hown hR0
  go_enter Tryz.func87, Tryz.ntmps87
  go_wp2
  go_loopg [5, 8] l.length (fun gg _ s8 wr => ∃ kk : Nat, kk ≤ l.length ∧ l.length - kk ≤ gg ∧ s8 = .int .i64 kk ∧ Aside (w.grownBy wr (some B)) ∧ Aside (R kk wr) ∧ Aside (∀ i (hi : i < l.length), i < kk → p l[i] = false))
  case atStart => exact ⟨0, Nat.zero_le _, by omega, rfl, (show Aside _ from World.grownBy.refl _ _), HR0.out, fun i hi h => absurd h (Nat.not_lt_zero _)⟩
  case round =>
    obtain ⟨kk, hkk, hg, rfl, BW, RK, M⟩ := hrel
    by_cases hlt : kk < l.length
    · have ho := own_grownB HO.out hB BW.out
      obtain ⟨g0, cap, hv, hbg, hglt, hcap⟩ := own_form ho (by omega)
      injection hv with e1 _ e2
      subst e1 e2
      have c0 : wr.cell? ⟨g0, kk * 4, none⟩ = some (.int .i64 l[kk].unit) := by
        have h1 := ho.cellAt (kk * 4 + 0) (by omega)
        rw [flatMap_get Val.cells 4 (fun _ => rfl) l kk 0 hlt (by omega)] at h1
        simpa [Val.cells] using h1
      have c1 : wr.cell? ⟨g0, kk * 4 + 1, none⟩ = some (.int .i64 l[kk].elem) := by
        have h1 := ho.cellAt (kk * 4 + 1) (by omega)
        rw [flatMap_get Val.cells 4 (fun _ => rfl) l kk 1 hlt (by omega)] at h1
        simpa [Val.cells] using h1
      have c2 : wr.cell? ⟨g0, kk * 4 + 2, none⟩ = some (.string l[kk].lang) := by
        have h1 := ho.cellAt (kk * 4 + 2) (by omega)
        rw [flatMap_get Val.cells 4 (fun _ => rfl) l kk 2 hlt (by omega)] at h1
        simpa [Val.cells] using h1
      have c3 : wr.cell? ⟨g0, kk * 4 + 3, none⟩ = some (.string l[kk].text) := by
        have h1 := ho.cellAt (kk * 4 + 3) (by omega)
        rw [flatMap_get Val.cells 4 (fun _ => rfl) l kk 3 hlt (by omega)] at h1
        simpa [Val.cells] using h1
      have hcall := HP.out kk hlt wr RK.out
      have hltz : (kk : Int) < (l.length : Int) := by omega
      clear ho
      generalize hy : l[kk] = y at c0 c1 c2 c3 hcall
      have BY : Aside (l[kk] = y) := hy
      clear hy
      unfold Val.agg at hcall
      cases hq : p y with
      | true =>
        rw [hq] at hcall
        have HIT := Lib.hid (idxP_hit p l kk hlt (by rw [BY.out]; exact hq) M.out)
        go_wp2_with (go_at_fn g; refine hcall.mono ?_; rintro e w' ⟨rfl, hb', hg'⟩)
        go_ret
        refine ⟨?_, fun h => ?_, fun m h => ?_, BW.out.trans hg'⟩
        · rw [HIT.out]
          rfl
        · rw [HIT.out] at h
          omega
        · rw [HIT.out] at h
          obtain rfl : kk = m := by omega
          exact hb'
      | false =>
        rw [hq] at hcall
        go_wp2_with (go_at_fn g; refine hcall.mono ?_; rintro e w' ⟨rfl, hb', hg'⟩)
        go_roundg (l.length - (kk + 1))
        case measure => omega
        case rel =>
          refine ⟨kk + 1, by omega, by omega, by go_num, (show Aside _ from BW.out.trans hg'), (show Aside _ from hb'), (show Aside _ from fun i hi h => ?_)⟩
          by_cases e : i = kk
          · subst e
            rw [BY.out]; exact hq
          · exact M.out i hi (by omega)
    · have hltz : ¬ (kk : Int) < (l.length : Int) := by omega
      obtain rfl : kk = l.length := by omega
      have MISS := Lib.hid (idxP_miss p l (fun i hi => M.out i hi (by omega)))
      go_wp2
      go_ret
      refine ⟨?_, fun _ => RK.out, fun m h => ?_, BW.out⟩
      · rw [MISS.out]
        rfl
      · rw [MISS.out] at h
        omega
set_option maxHeartbeats 2000000 in
/-- slices.DeleteFunc at values, on a row of the call's own. -/
theorem deleteFuncVE (l : List Val) (p : Val → Bool) (gf : Nat) (lb : Array Value) (eg : ∀ args w, (callFunc gf args).run Tryz.prog w = .ok (.enter gf args) w) (base B : Nat) (hB : B < base) (v : Value) (w : World) (hbase : base ≤ w.heap.size)
    (hown : w.ownsRow base 29 4 v l.length (l.flatMap Val.cells))
    (R : Nat → World → Prop) (hR0 : R 0 w) (hRg : ∀ i W W' g, base ≤ g → R i W → W.grownBy W' (some g) → R i W')
    (hp : ∀ i (hi : i < l.length) W, R i W → Calls Tryz.prog gf (#[l[i].agg] ++ lb) W fun e w' => e = .returned (.bool (p l[i])) ∧ R (i + 1) w' ∧ W.grownBy w' (some B)) :
    Calls Tryz.prog 52 #[v, .func (.func gf) #[] lb] w fun e w' => ∃ v', e = .returned v' ∧ w'.ownsRow base 29 4 v' (l.filter fun x => !p x).length ((l.filter fun x => !p x).flatMap Val.cells) ∧ R l.length w' := by
  have hix := indexFuncVE l p gf lb eg base B hB v w hown R hR0 hp
  by_cases hany : l.any p = true
  case neg =>
    simp only [Bool.not_eq_true] at hany
    have hid : l.filter (fun x => !p x) = l := List.filter_eq_self.2 (fun x hx => by
      rw [List.any_eq_false] at hany
      simpa using hany x hx)
    have hm : idxP p l = -1 := idxP_miss p l (fun i hi => by
      rw [List.any_eq_false] at hany
      simpa using hany l[i] (List.getElem_mem hi))
    rw [hid]
    rw [hm] at hix
    have HX := Lib.hid hix
    have HO := Lib.hid hown
    generalize l.flatMap Val.cells = cs at HO ⊢
    clear hix hown hp hid hm hany hR0 hRg
    go_enter Tryz.func52, Tryz.ntmps52
    go_wp2_with (first | (go_at_call 87; refine HX.out.mono ?_; rintro e w1 ⟨rfl, hr, -, hg⟩))
    go_ret
    exact ⟨v, rfl, own_grownB HO.out hB hg, hr (by first | rfl | trivial)⟩
  case pos =>
    obtain ⟨m, hm, hpm, hbef⟩ := idxP_find p l hany
    have he : idxP p l = (m : Int) := idxP_hit p l m hm hpm hbef
    rw [he] at hix
    obtain ⟨g, cap, hv, hbg, hglt, hcap⟩ := own_form hown (by omega)
    subst hv
    have hcm : cap ≤ maxLen := own_max hown
    unfold maxLen at hcm
    have DI0 : DelInv 4 Val.cells l (fun x => !p x) (l.flatMap Val.cells) m (m + 1) := DelInv.start (f := Val.cells) (fun _ => rfl) m hm (by simp [hpm]) (fun t ht h => by simp [hbef t ht h])
    have HX := Lib.hid hix
    have HO := Lib.hid hown
    have HP := Lib.hid hp
    have HD := Lib.hid DI0
    have hneg : ((m : Int) == -1) = false := beq_eq_false_iff_ne.2 (by omega)
    clear hix hown hp DI0 he hpm hbef hany hR0
    have HRG := Lib.hid hRg
    clear hRg
    go_enter Tryz.func52, Tryz.ntmps52
    go_wp2_with (first | (go_at_call 87; refine HX.out.mono ?_; rintro e w1 ⟨rfl, -, hr, hg⟩))
    have HR1 := Lib.hid (hr m rfl)
    clear hr
    go_loopg [5, 6] l.length (fun gg s5 s6 wr => ∃ ii jj : Nat, ii < jj ∧ jj ≤ l.length ∧ l.length - jj ≤ gg ∧ s5 = .int .i64 ii ∧ s6 = .int .i64 jj ∧ Aside (R jj wr) ∧ Aside (base ≤ wr.heap.size) ∧ Aside (∃ ds, wr.ownsRow base 29 4 (.slice (some ⟨g, 0, none⟩) l.length cap) l.length ds ∧ DelInv 4 Val.cells l (fun x => !p x) ds ii jj))
    case atStart => exact ⟨m, m + 1, by omega, by omega, by omega, rfl, by go_num, (show Aside _ from HR1.out), (show Aside _ from Nat.le_trans hbase hg.size), _, own_grownB HO.out hB hg, HD.out⟩
    case round =>
      obtain ⟨ii, jj, hij, hjl, hgk, rfl, rfl, RJ, BW, hds⟩ := hrel
      obtain ⟨ds, ho, DI0⟩ := hds.out
      have DI := Lib.hid DI0
      clear hds DI0
      by_cases hlt : jj < l.length
      · have hltz : (jj : Int) < (l.length : Int) := by omega
        have c0 : wr.cell? ⟨g, jj * 4, none⟩ = some (.int .i64 l[jj].unit) := by
          have h1 := ho.cellAt (jj * 4 + 0) (by omega)
          have h2 := DelInv.at_ (f := Val.cells) DI.out (fun _ => rfl) hlt 0 (by omega)
          rw [h2] at h1
          simpa [Val.cells] using h1
        have c1 : wr.cell? ⟨g, jj * 4 + 1, none⟩ = some (.int .i64 l[jj].elem) := by
          have h1 := ho.cellAt (jj * 4 + 1) (by omega)
          have h2 := DelInv.at_ (f := Val.cells) DI.out (fun _ => rfl) hlt 1 (by omega)
          rw [h2] at h1
          simpa [Val.cells] using h1
        have c2 : wr.cell? ⟨g, jj * 4 + 2, none⟩ = some (.string l[jj].lang) := by
          have h1 := ho.cellAt (jj * 4 + 2) (by omega)
          have h2 := DelInv.at_ (f := Val.cells) DI.out (fun _ => rfl) hlt 2 (by omega)
          rw [h2] at h1
          simpa [Val.cells] using h1
        have c3 : wr.cell? ⟨g, jj * 4 + 3, none⟩ = some (.string l[jj].text) := by
          have h1 := ho.cellAt (jj * 4 + 3) (by omega)
          have h2 := DelInv.at_ (f := Val.cells) DI.out (fun _ => rfl) hlt 3 (by omega)
          rw [h2] at h1
          simpa [Val.cells] using h1
        have hcall := HP.out jj hlt (wr.alloc (.cells #[.int .i64 l[jj].unit, .int .i64 l[jj].elem, .string l[jj].lang, .string l[jj].text] 29)) (HRG.out jj wr _ g hbg RJ.out (grown_grew ((Grew.refl wr).alloc _) _))
        have HOr := Lib.hid ho
        have Hlt := Lib.hid hlt
        generalize hy : l[jj] = y at c0 c1 c2 c3 hcall
        have BY : Aside (l[jj] = y) := hy
        clear hy ho
        unfold Val.agg at hcall
        cases hq : p y with
        | true =>
          have Hq : Aside (p y = true) := hq
          rw [hq] at hcall
          go_wp2_with (go_at_fn gf; refine hcall.mono ?_; rintro e w' ⟨rfl, hr', hb'⟩)
          go_roundg (l.length - (jj + 1))
          case measure => omega
          case rel => exact ⟨ii, jj + 1, by omega, by omega, by omega, rfl, by go_num, (show Aside _ from hr'), (show Aside _ from Nat.le_trans BW.out (Nat.le_trans ((Grew.refl wr).alloc _).size hb'.size)), (show Aside _ from ⟨ds, own_grownB (own_later HOr.out ((Grew.refl wr).alloc _)) hB hb', DI.out.skip Hlt.out (by have h : l[jj]'Hlt.out = y := BY.out; rw [h, Hq.out]; rfl)⟩)⟩
        | false =>
          have Hq : Aside (p y = false) := hq
          rw [hq] at hcall
          go_wp2_with fail
          refine hcall.mono ?_
          rintro e w' ⟨rfl, hr', hb'⟩
          have hne : wr.heap.size ≠ B := fun e => by have := BW.out; omega
          have ho' := own_grownB (own_later HOr.out ((Grew.refl wr).alloc _)) hB hb'
          have d0 : w'.cell? ⟨wr.heap.size, 0, none⟩ = some (.int .i64 y.unit) := cell_grownB (by simp) hne hb'
          have d1 : w'.cell? ⟨wr.heap.size, 1, none⟩ = some (.int .i64 y.elem) := cell_grownB (by simp) hne hb'
          have d2 : w'.cell? ⟨wr.heap.size, 2, none⟩ = some (.string y.lang) := cell_grownB (by simp) hne hb'
          have d3 : w'.cell? ⟨wr.heap.size, 3, none⟩ = some (.string y.text) := cell_grownB (by simp) hne hb'
          obtain ⟨u0, _, hu0⟩ := own_cell ho' (ii * 4 + 0) (by omega)
          have hf0 := ho'.frozenAt (ii * 4 + 0)
          obtain ⟨u1, _, hu1⟩ := own_cell ho' (ii * 4 + 1) (by omega)
          have hf1 := ho'.frozenAt (ii * 4 + 1)
          obtain ⟨u2, _, hu2⟩ := own_cell ho' (ii * 4 + 2) (by omega)
          have hf2 := ho'.frozenAt (ii * 4 + 2)
          obtain ⟨u3, _, hu3⟩ := own_cell ho' (ii * 4 + 3) (by omega)
          have hf3 := ho'.frozenAt (ii * 4 + 3)
          simp only [Nat.add_zero] at hu0 hf0
          have HO' := Lib.hid ho'
          clear ho'
          go_wp2
          obtain ⟨ds1, hD1, hG1, hL1, hA1, hB1⟩ := own_setCells (Val.cells y) (ii * 4) w' ds HO'.out
          go_roundg (l.length - (jj + 1))
          case measure => omega
          case rel =>
            have hyj : l[jj]'Hlt.out = y := BY.out
            have hbs := Nat.le_trans BW.out (Nat.le_trans ((Grew.refl wr).alloc (.cells #[.int .i64 y.unit, .int .i64 y.elem, .string y.lang, .string y.text] 29)).size hb'.size)
            refine ⟨ii + 1, jj + 1, by omega, by omega, by omega, by go_num, by go_num, (show Aside _ from ?_), (show Aside _ from (show base ≤ _ by simpa using hbs)), (show Aside _ from ⟨ds1, ?_, ?_⟩)⟩
            · refine HRG.out (jj + 1) w' _ g hbg hr' ?_
              simpa [Val.cells, World.setCells, Nat.add_assoc] using hG1
            · simpa [Val.cells, World.setCells, Nat.add_assoc] using hD1
            · exact DelInv.keep (f := Val.cells) DI.out (fun _ => rfl) Hlt.out (by rw [hyj, Hq.out]; rfl) hL1 (by rw [hyj]; exact hA1) (by rw [hyj]; exact hB1)
      · have hje : jj = l.length := by omega
        subst hje
        have hii : ¬ cap = ii := by omega
        have hgt : (ii : Int) ≤ (l.length : Int) := by omega
        obtain ⟨w2, ds2, hrun, ho2, hg2, ha2⟩ := run_clear_own (P := Tryz.prog) wr 27 29 0 (.agg #[.int .i64 0, .int .i64 0, .string ⟨#[]⟩, .string ⟨#[]⟩]) 4 Tryz.underlying27 Tryz.zeroValue29 rfl (by omega) (by simp [Value.cells, Value.oneCell']) ho ii (cap - ii) hij
        have hrun' : ∀ ty, (Builtin.clear_ #[27] ty #[.slice (some ⟨g, ii * 4, none⟩) (l.length - ii) (cap - ii)]).run Tryz.prog wr = .ok (.tuple #[]) w2 := fun _ => hrun
        have Ho2 := Lib.hid ho2
        have Ha2 := Lib.hid ha2
        clear ho2 ha2 hrun ho
        go_wp2
        go_ret
        obtain ⟨e1, e2⟩ := DelInv.done (f := Val.cells) DI.out (fun _ => rfl) Ha2.out
        have hc2 := own_cut Ho2.out ii (by omega)
        rw [e1] at hc2
        refine ⟨_, rfl, ?_, HRG.out l.length wr _ g hbg RJ.out hg2⟩
        rw [← e2]
        exact hc2
end Go.Proofs.YtjaknioojpgkiaaGreatDoor

/- slices.DeleteFunc at numbers, on a row of the call's own, with a word on all other blocks. No condition but that the function that is handed over answers as p does. -/
namespace Go.Proofs.YtjaknioojpgkiaaGreatDoor
open Go.RowKit

/-- All cells but those of one block are as they were. -/
def KeepOff (row : Option Nat) (w w' : World) : Prop := w.heap.size ≤ w'.heap.size ∧ ∀ p x, w.cell? p = some x → some p.block ≠ row → w'.cell? p = some x
theorem KeepOff.grew {row : Option Nat} {w w' : World} (h : Grew w w') : KeepOff row w w' := ⟨h.size, fun _ _ hp _ => keep_cell h hp⟩
theorem KeepOff.trans {row : Option Nat} {a b c : World} (h : KeepOff row a b) (k : KeepOff row b c) : KeepOff row a c := ⟨Nat.le_trans h.1 k.1, fun p x hp hn => k.2 p x (h.2 p x hp hn) hn⟩
theorem KeepOff.grown {row : Option Nat} {w w' : World} (h : w.grownBy w' row) : KeepOff row w w' := ⟨h.size, fun _ _ hp hn => h.cell hp hn⟩
theorem KeepOff.set (w : World) (p : Addr) (u : Value) : KeepOff (some p.block) w (w.setCell p u) := ⟨by simp, fun q x hq hn => by rw [World.cell?_setCell_other _ _ _ _ (fun e => hn (by rw [e]))]; exact hq⟩
theorem KeepOff.rd {row : Option Nat} {w w' : World} {k : Nat} {v : Value} {cs : List Value} (h : KeepOff row w w') (hr : Rd w k v cs) (hn : ∀ b, v.ownBlock = some b → row ≠ some b) : Rd w' k v cs := by
  obtain ⟨A, n, c, rfl, hl, hnc, hc, h0⟩ := hr
  refine ⟨A, n, c, rfl, hl, hnc, hc, fun hp => ?_⟩
  obtain ⟨b, off, rfl, hb, hcell⟩ := h0 hp
  exact ⟨b, off, rfl, Nat.lt_of_lt_of_le hb h.1, fun j u hu => h.2 _ _ (hcell j u hu) (fun e => hn b rfl e.symm)⟩
end Go.Proofs.YtjaknioojpgkiaaGreatDoor

/- describe.Normal, walked: the normal form. The conditions: the library's own variables hold what they must; the lists are short. -/
namespace Go.Proofs.YtjaknioojpgkiaaGreatDoor
open Go.RowKit

theorem red_any {t : Tr} {vs : List Val} {i : Nat} (h : i < vs.length) : ((redF t vs).any fun y => ((i : Int) == y)) = redB t vs vs[i] := by
  rw [Bool.eq_iff_iff, List.any_eq_true]
  constructor
  · rintro ⟨y, hy, e⟩
    obtain ⟨j, hj, rfl, hb⟩ := red_get hy
    have : i = j := by have := beq_iff_eq.1 e; omega
    subst this
    exact hb
  · intro hb
    refine ⟨(i : Int), ?_, by simp⟩
    unfold redF
    refine List.mem_map.2 ⟨i, List.mem_filter.2 ⟨List.mem_range.2 h, ?_⟩, rfl⟩
    rw [List.getElem?_eq_getElem h]
    exact hb
set_option maxHeartbeats 2000000 in
theorem dNormal1 (i : Nat) (hi : i ≤ 1000000) (x : Val) (reds : List Int) (A : Option Addr) (n c Ba Br : Nat) (W : World) (ha : W.heap[Ba]? = some (.cells #[.int .i64 ((i : Int) - 1)] 3 (0, 0))) (hr : W.heap[Br]? = some (.cells #[.slice A n c] 22 (0, 0))) (hne : Br ≠ Ba)
    (hs : SlI ((W.alloc (.cells x.cells.toArray 29)).setCell ⟨Ba, 0, none⟩ (.int .i64 (i : Int))) (.slice A n c) reds) :
    Calls Tryz.prog 53 (#[x.agg] ++ #[.pointer (some ⟨Ba, 0, none⟩), .pointer (some ⟨Br, 0, none⟩)]) W fun e w' => e = .returned (.bool (reds.any fun y => ((i : Int) == y))) ∧ (W.alloc (.cells x.cells.toArray 29)).setCell ⟨Ba, 0, none⟩ (.int .i64 (i : Int)) = w' := by
  obtain ⟨xu, xe, xl, xt⟩ := x
  have K := Lib.hid (containsI reds (i : Int) _ _ hs)
  have hba := (Array.getElem?_eq_some_iff.1 ha).1
  have hbr := (Array.getElem?_eq_some_iff.1 hr).1
  have g := (Grew.refl W).alloc (.cells (⟨xu, xe, xl, xt⟩ : Val).cells.toArray 29)
  obtain ⟨a0, z0⟩ := one_cell (heap_keepI g ha)
  have r0 := (one_cell (heap_keepI g hr)).1
  have r1 : ((W.alloc (.cells (⟨xu, xe, xl, xt⟩ : Val).cells.toArray 29)).setCell ⟨Ba, 0, none⟩ (.int .i64 (i : Int))).cell? ⟨Br, 0, none⟩ = some (.slice A n c) := by
    rw [World.cell?_setCell_other _ _ _ _ (fun e => hne (by injection e with e1; exact e1.symm))]
    exact r0
  have a1 : ((W.alloc (.cells (⟨xu, xe, xl, xt⟩ : Val).cells.toArray 29)).setCell ⟨Ba, 0, none⟩ (.int .i64 (i : Int))).cell? ⟨Ba, 0, none⟩ = some (.int .i64 (i : Int)) := World.cell?_setCell_same' _ _ _ (by rw [a0]; rfl)
  unfold Val.cells at K a0 z0 r0 r1 a1
  unfold Val.agg Val.cells
  dsimp only at K a0 z0 r0 r1 a1 ⊢
  have hadd : (i : Int) - 1 + 1 = (i : Int) := by omega
  clear ha hr hs g hba hbr
  go_enter Tryz.func53, Tryz.ntmps53
  go_wp2_with fail
  refine K.out.mono ?_
  rintro e w1 ⟨rfl, rfl⟩
  dsimp only
  go_wp2
  go_ret
  exact ⟨rfl, rfl⟩
theorem enters_dNormal1 : ∀ args w, (callFunc 53 args).run Tryz.prog w = .ok (.enter 53 args) w := enters_of Tryz.func53 (by kernel_rfl) rfl
/-- What the counter's box and the list hold behind some calls. -/
def NrmR (w : World) (Br Ba : Nat) (A : Option Addr) (c : Nat) (reds : List Int) (i : Nat) (W : World) : Prop := W.heap[Ba]? = some (.cells #[.int .i64 ((i : Int) - 1)] 3 (0, 0)) ∧ W.heap[Br]? = some (.cells #[.slice A reds.length c] 22 (0, 0)) ∧ SlI W (.slice A reds.length c) reds ∧ Grew w W
theorem NrmR.row {w : World} {Br Ba : Nat} {A : Option Addr} {c : Nat} {reds : List Int} (hrow : ∀ b, (Value.slice A reds.length c).ownBlock = some b → b < Br) (hlo : w.heap.size ≤ Br) (hBa : Br < Ba) : ∀ i W W' g, Ba + 1 ≤ g → NrmR w Br Ba A c reds i W → W.grownBy W' (some g) → NrmR w Br Ba A c reds i W' := by
  rintro i W W' g hg ⟨h1, h2, h3, h4⟩ hW
  have b1 := (Array.getElem?_eq_some_iff.1 h1).1
  have b2 := (Array.getElem?_eq_some_iff.1 h2).1
  refine ⟨by rw [hW.block Ba b1 (fun e => by injection e; omega)]; exact h1, by rw [hW.block Br b2 (fun e => by injection e; omega)]; exact h2, (KeepOff.grown hW).rd h3 (fun b hb e => by injection e; have := hrow b hb; omega), ?_⟩
  exact Below.grown h4 hW h4.size (fun k e => by injection e; omega)
theorem NrmR.call {w : World} {Br Ba : Nat} {A : Option Addr} {c : Nat} {reds : List Int} (hrow : ∀ b, (Value.slice A reds.length c).ownBlock = some b → b < Br) (hlo : w.heap.size ≤ Br) (hBa : Br < Ba) (i : Nat) (W : World) (o : Obj) (h : NrmR w Br Ba A c reds i W) :
    SlI ((W.alloc o).setCell ⟨Ba, 0, none⟩ (.int .i64 (i : Int))) (.slice A reds.length c) reds ∧ NrmR w Br Ba A c reds (i + 1) ((W.alloc o).setCell ⟨Ba, 0, none⟩ (.int .i64 (i : Int))) ∧ W.grownBy ((W.alloc o).setCell ⟨Ba, 0, none⟩ (.int .i64 (i : Int))) (some Ba) := by
  obtain ⟨h1, h2, h3, h4⟩ := h
  have ga : Grew W (W.alloc o) := (Grew.refl W).alloc o
  have hg : W.grownBy ((W.alloc o).setCell ⟨Ba, 0, none⟩ (.int .i64 (i : Int))) (some Ba) := (grown_grew ga _).trans (grown_set _ ⟨Ba, 0, none⟩ _)
  have k1 := heap_setCell_same (W.alloc o) Ba 0 _ _ (.int .i64 (i : Int)) (heap_keepI ga h1)
  have b2 := (Array.getElem?_eq_some_iff.1 h2).1
  have hsl := (KeepOff.grown hg).rd h3 (fun b hb e => by injection e; have := hrow b hb; omega)
  refine ⟨hsl, ⟨?_, ?_, hsl, ?_⟩, hg⟩
  · have e : ((i + 1 : Nat) : Int) - 1 = (i : Int) := by omega
    rw [e]
    simpa using k1
  · rw [hg.block Br b2 (fun e => by injection e; omega)]
    exact h2
  · exact Below.grown h4 hg h4.size (fun k e => by injection e; omega)
set_option maxHeartbeats 8000000 in
set_option maxRecDepth 100000 in
theorem dNormal (t : Tr) (ls : List ByteArray) (vs : List Val) (rv bv lv vv : Value) (w : World) (hE : Env w) (hr : SlI w rv t.roots) (hv : SlBr w bv t.brs) (hf : FewBr t.brs) (hrl : t.roots.length ≤ 1000000) (hl : SlS w lv ls) (hvv : SlV w vv vs) (hfv : vs.length ≤ 1000000) :
    Calls Tryz.prog 13 #[.agg #[rv, bv], lv, vv] w (RetVL (normR t ls vs) w) := by
  have kR := fun W (hW : Grew w W) => iRedX t ls vs rv bv lv vv W (hE.mono hW) (hr.mono hW) (hv.mono hW) hf hrl (hl.mono hW) (hvv.mono hW) hfv
  have KCV := Lib.hid (fun W (hW : Grew w W) => cloneV vs vv W (hvv.mono hW) (by omega))
  have HRA := Lib.hid (fun i (h : i < vs.length) => red_any (t := t) h)
  have hnr : normR t ls vs = if ofI t ls vs = 0 then (vs.filter (fun v => !redB t vs v), 0) else ([], 1) := rfl
  rw [hnr]
  unfold redR RetNL at kR
  generalize redF t vs = reds at kR HRA
  generalize redB t vs = RB at HRA ⊢
  have H01 := Lib.hid (ofI_two t ls vs)
  generalize ofI t ls vs = N0 at kR H01 ⊢
  have KR := Lib.hid kR
  obtain ⟨Ar0, cr0, rfl, -⟩ := hr.open_
  obtain ⟨Ab0, cb0, rfl, -⟩ := hv.open_
  clear kR hnr hE hr hv hf hrl hl hvv
  have GA := Lib.hid ((Grew.refl w).alloc (.cells #[.slice Ar0 t.roots.length cr0, .slice Ab0 t.brs.length cb0] 25))
  unfold RetVL
  rcases H01.out with rfl | rfl
  · have kr := KR.out
    simp only [if_true] at kr
    have KR2 := Lib.hid kr
    rw [if_pos rfl]
    clear kr KR H01
    dsimp only
    go_enter Tryz.func13, Tryz.ntmps13
    go_wp2_with fail
    generalize w.alloc (.cells #[.slice Ar0 t.roots.length cr0, .slice Ab0 t.brs.length cb0] 25) = WA at GA ⊢
    refine (KR2.out _ GA.out).mono ?_
    rintro e w1 ⟨v1, rfl, ho, g1⟩
    obtain ⟨A1, c1, rfl⟩ := own_slice ho
    have hrow : ∀ b, (Value.slice A1 reds.length c1).ownBlock = some b → b < w1.heap.size := fun b e => (ho.lt b e).2
    have hsl : SlI w1 (.slice A1 reds.length c1) reds := Rd.of_own ho
    have g01 := GA.out.trans g1
    have hR0 : NrmR w w1.heap.size (w1.heap.size + 1) A1 c1 reds 0 ((w1.alloc (.cells #[.slice A1 reds.length c1] 22)).alloc (.cells #[.int .i64 (-1)] 3)) := by
      refine ⟨?_, ?_, hsl.mono (((Grew.refl _).alloc _).alloc _), (g01.alloc _).alloc _⟩
      · have := heap_newI (w1.alloc (.cells #[.slice A1 reds.length c1] 22)) (.cells #[.int .i64 (-1)] 3)
        rw [World.size_alloc] at this
        exact this
      · exact heap_keepI ((Grew.refl _).alloc _) (heap_newI w1 _)
    have HR0 := Lib.hid hR0
    have HROW := Lib.hid hrow
    have HLO := Lib.hid g01.size
    have G2 := Lib.hid ((g01.alloc (.cells #[.slice A1 reds.length c1] 22)).alloc (.cells #[.int .i64 (-1)] 3))
    have hsz : ((w1.alloc (.cells #[.slice A1 reds.length c1] 22)).alloc (.cells #[.int .i64 (-1)] 3)).heap.size = w1.heap.size + 2 := by simp
    have HSZ := Lib.hid hsz
    clear hsl g01 hR0 hrow ho g1 KR2 hsz
    dsimp only
    go_wp2_with fail
    generalize (w1.alloc (.cells #[.slice A1 reds.length c1] 22)).alloc (.cells #[.int .i64 (-1)] 3) = W2 at HR0 G2 HSZ ⊢
    refine (KCV.out _ G2.out).mono ?_
    rintro e w5 ⟨v5, rfl, ho5, g5⟩
    have HDEL := Lib.hid (deleteFuncVE vs RB 53 #[.pointer (some ⟨w1.heap.size + 1, 0, none⟩), .pointer (some ⟨w1.heap.size, 0, none⟩)] enters_dNormal1 W2.heap.size (w1.heap.size + 1) (by rw [HSZ.out]; omega) v5 w5 g5.size ho5 (NrmR w w1.heap.size (w1.heap.size + 1) A1 c1 reds)
      (by obtain ⟨h1, h2, h3, h4⟩ := HR0.out; exact ⟨heap_keepI g5 h1, heap_keepI g5 h2, h3.mono g5, h4.trans g5⟩)
      (fun i W W' g hg h hW => NrmR.row HROW.out HLO.out (Nat.lt_succ_self _) i W W' g (by rw [HSZ.out] at hg; omega) h hW)
      (fun i hi W h => by
        obtain ⟨k1, k2, k3⟩ := NrmR.call HROW.out HLO.out (Nat.lt_succ_self _) i W (.cells vs[i].cells.toArray 29) h
        refine (dNormal1 i (by omega) vs[i] reds A1 reds.length c1 (w1.heap.size + 1) w1.heap.size W h.1 h.2.1 (by omega) k1).mono ?_
        rintro e w' ⟨rfl, rfl⟩
        rw [HRA.out i hi]
        exact ⟨rfl, k2, k3⟩))
    clear ho5 g5 KCV HRA HR0
    dsimp only
    go_wp2_with fail
    refine HDEL.out.mono ?_
    rintro e w6 ⟨v6, rfl, ho6, hR6⟩
    have HO6 := Lib.hid (own_base ho6 (show w.heap.size ≤ W2.heap.size by rw [HSZ.out]; have := HLO.out; omega))
    have HG6 := Lib.hid hR6.2.2.2
    clear ho6 hR6 HDEL
    dsimp only
    go_wp2
    go_ret2
    exact ⟨_, rfl, HO6.out, HG6.out⟩
  · have kr := KR.out
    simp only [show ¬ (1 : Int) = 0 by decide, if_false] at kr
    have KR2 := Lib.hid kr
    rw [if_neg (by decide)]
    clear kr KR H01 KCV HRA
    dsimp only
    go_enter Tryz.func13, Tryz.ntmps13
    go_wp2_with fail
    generalize w.alloc (.cells #[.slice Ar0 t.roots.length cr0, .slice Ab0 t.brs.length cb0] 25) = WA at GA ⊢
    refine (KR2.out _ GA.out).mono ?_
    rintro e w1 ⟨v1, rfl, ho, g1⟩
    obtain ⟨A1, c1, rfl⟩ := own_slice ho
    have G1 := Lib.hid (GA.out.trans g1)
    clear ho g1 KR2
    dsimp only
    go_wp2_with fail
    go_ret2
    exact ⟨_, rfl, World.ownsRow_nil _ _ _ _, G1.out.alloc _⟩
end Go.Proofs.YtjaknioojpgkiaaGreatDoor

/- slices.BinarySearchFunc at values. No condition but that the comparison answers as cf does, and that it is so along the list. -/
namespace Go.Proofs.YtjaknioojpgkiaaGreatDoor
open Go.RowKit

set_option maxHeartbeats 2000000 in
theorem searchV (l : List Val) (x : Val) (cf : Val → Int) (g : Nat) (eg : ∀ args w, (callFunc g args).run Tryz.prog w = .ok (.enter g args) w) (v : Value) (w : World) (hv : SlV w v l) (hlen : l.length ≤ 1000000)
    (hc : ∀ W y, Calls Tryz.prog g (#[y.agg, x.agg] ++ #[]) W fun e w' => e = .returned (.int .i64 (cf y)) ∧ Grew W w')
    (hm : ∀ i j (hi : i < l.length) (hj : j < l.length), i ≤ j → cf l[j] < 0 → cf l[i] < 0) :
    Calls Tryz.prog 113 #[v, x.agg, .func (.func g) #[] #[]] w fun e w' =>
      e = .returned (.tuple #[.int .i64 (passes (fun y => decide (cf y < 0)) l), .bool (hitB (fun y => decide (cf y = 0)) l (passes (fun y => decide (cf y < 0)) l))]) ∧ Grew w w' := by
  obtain ⟨A, c, rfl, hlc, hcap, hr⟩ := hv.open_
  have HR := Lib.hid hr
  have HM := Lib.hid hm
  have HP := Lib.hid (passes_eq (fun y => decide (cf y < 0)) l)
  have HC := Lib.hid hc
  clear hv hr hm hcap hlc hc
  generalize passes (fun y => decide (cf y < 0)) l = P0 at HP ⊢
  generalize hh0 : hitB (fun y => decide (cf y = 0)) l P0 = hb0
  have HH0 := Lib.hid hh0
  clear hh0
  unfold Val.agg at HC ⊢
  obtain ⟨xu, xe, xl, xt⟩ := x
  dsimp only at HC ⊢
  go_enter Tryz.func113, Tryz.ntmps113
  go_wp2
  go_loopg [9, 10] l.length (fun gg s9 s10 wr => ∃ i j : Nat, i ≤ j ∧ j ≤ l.length ∧ j - i ≤ gg ∧ s9 = .int .i64 i ∧ s10 = .int .i64 j ∧ Aside (Grew (w.alloc (.cells [.int .i64 xu, .int .i64 xe, .string xl, .string xt].toArray 29)) wr) ∧ Aside (∀ t (h : t < l.length), t < i → cf l[t] < 0) ∧ Aside (∀ t (h : t < l.length), j ≤ t → ¬ cf l[t] < 0))
  case atStart => exact ⟨0, l.length, by omega, by omega, by omega, rfl, rfl, (show Aside _ from Grew.refl _), (show Aside _ from fun t h ht => by omega), (show Aside _ from fun t h ht => by omega)⟩
  case round =>
    obtain ⟨i, j, hij, hj, hgk, rfl, rfl, BW, M1, M2⟩ := hrel
    by_cases hlt : i < j
    · have hltz : (i : Int) < (j : Int) := by omega
      have hmid : ((i : Int) + (j : Int)) / 2 = (((i + j) / 2 : Nat) : Int) := by omega
      have hk1 : i ≤ (i + j) / 2 := by omega
      have hk2 : (i + j) / 2 < j := by omega
      have HMID := Lib.hid hmid
      clear hmid
      go_wp2
      rw [HMID.out]
      generalize (i + j) / 2 = k at hk1 hk2
      clear HMID
      have hkl : k < l.length := by omega
      have hkz : (k : Int) < (l.length : Int) := by omega
      have h0z : (0 : Int) ≤ (k : Int) := by omega
      obtain ⟨b, off, rfl, hb, hcell⟩ := HR.out (by omega)
      have GW : Grew w wr := ((Grew.refl w).alloc _).trans BW.out
      obtain ⟨c0, c1, c2, c3⟩ := hcell wr GW k hkl
      have f0 := Gr.cell c0
      have f1 := Gr.cell c1
      have f2 := Gr.cell c2
      have f3 := Gr.cell c3
      have k0 := Gr.cell (new_cell BW.out 0 _ rfl)
      have k1 := Gr.cell (new_cell BW.out 1 _ rfl)
      have k2 := Gr.cell (new_cell BW.out 2 _ rfl)
      have k3 := Gr.cell (new_cell BW.out 3 _ rfl)
      have kC := fun W => HC.out W l[k]
      have HN1 : RowKit.Hid (cf l[k] < 0 → ∀ t (h : t < l.length), t < k + 1 → cf l[t] < 0) := fun h t ht htk => HM.out t k ht hkl (by omega) h
      have HN2 : RowKit.Hid (¬ cf l[k] < 0 → ∀ t (h : t < l.length), k ≤ t → ¬ cf l[t] < 0) := fun h t ht htk h3 => h (HM.out k t hkl ht htk h3)
      clear hcell c0 c1 c2 c3 GW
      generalize cf l[k] = r at kC HN1 HN2
      generalize l[k] = y at f0 f1 f2 f3 kC
      obtain ⟨yu, ye, yl, yt⟩ := y
      dsimp only at f0 f1 f2 f3 kC
      have KC := Lib.hid kC
      clear kC
      by_cases hneg : r < 0
      · have Hn := Lib.hid (HN1.out hneg)
        refine region_gr wr (by kernel_rfl) (by kernel_rfl) (Grew.refl _) ?_
        repeat (first | go_big_quiet_step ((exact Gr.calls _ (KC.out _))) | quiet_step ((exact Gr.calls _ (KC.out _))))
        refine wpQuiet_nil ?_
        intro _ hw'
        obtain ⟨wi, rfl⟩ := hw'
        have HWI := Lib.hid wi.g
        clear f0 f1 f2 f3 k0 k1 k2 k3
        go_wp2
        go_roundg (j - (k + 1))
        case measure => omega
        case rel => exact ⟨k + 1, j, by omega, by omega, by omega, by go_num, rfl, (show Aside _ from BW.out.trans HWI.out), (show Aside _ from Hn.out), M2⟩
      · have hneg' : decide (r < 0) = false := by simpa using hneg
        have Hn := Lib.hid (HN2.out hneg)
        clear hneg
        refine region_gr wr (by kernel_rfl) (by kernel_rfl) (Grew.refl _) ?_
        repeat (first | go_big_quiet_step ((exact Gr.calls _ (KC.out _))) | quiet_step ((exact Gr.calls _ (KC.out _))))
        refine wpQuiet_nil ?_
        intro _ hw'
        obtain ⟨wi, rfl⟩ := hw'
        have HWI := Lib.hid wi.g
        clear f0 f1 f2 f3 k0 k1 k2 k3
        go_wp2
        go_roundg (k - i)
        case measure => omega
        case rel => exact ⟨i, k, by omega, by omega, by omega, rfl, rfl, (show Aside _ from BW.out.trans HWI.out), M1, (show Aside _ from Hn.out)⟩
    · have hltz : ¬ (i : Int) < (j : Int) := by omega
      obtain rfl : i = j := by omega
      have hP := HP.out i hj (fun t h ht => by simpa using M1.out t h ht) (fun t h ht => by simpa using M2.out t h ht)
      subst hP
      have HGW := Lib.hid (((Grew.refl w).alloc _).trans BW.out)
      by_cases hil : P0 < l.length
      · have hilz : (P0 : Int) < (l.length : Int) := by omega
        have h0z : (0 : Int) ≤ (P0 : Int) := by omega
        obtain ⟨b, off, rfl, hb, hcell⟩ := HR.out (by omega)
        obtain ⟨c0, c1, c2, c3⟩ := hcell wr HGW.out P0 hil
        have f0 := Gr.cell c0
        have f1 := Gr.cell c1
        have f2 := Gr.cell c2
        have f3 := Gr.cell c3
        have k0 := Gr.cell (new_cell BW.out 0 _ rfl)
        have k1 := Gr.cell (new_cell BW.out 1 _ rfl)
        have k2 := Gr.cell (new_cell BW.out 2 _ rfl)
        have k3 := Gr.cell (new_cell BW.out 3 _ rfl)
        have kC := fun W => HC.out W l[P0]
        have hh : (cf l[P0] == 0) = hb0 := by
          rw [← HH0.out]
          simp only [hitB, List.getElem?_eq_getElem hil]
          rfl
        clear hcell c0 c1 c2 c3
        generalize cf l[P0] = r at kC hh
        have HHE := Lib.hid hh
        clear hh
        generalize l[P0] = y at f0 f1 f2 f3 kC
        obtain ⟨yu, ye, yl, yt⟩ := y
        dsimp only at f0 f1 f2 f3 kC
        have KC := Lib.hid kC
        clear kC
        go_wp2
        refine region_gr wr (by kernel_rfl) (by kernel_rfl) (Grew.refl _) ?_
        repeat (first | go_big_quiet_step ((exact Gr.calls _ (KC.out _))) | quiet_step ((exact Gr.calls _ (KC.out _))))
        refine wpQuiet_nil ?_
        intro _ hw'
        obtain ⟨wi, rfl⟩ := hw'
        have HWI := Lib.hid wi.g
        clear f0 f1 f2 f3 k0 k1 k2 k3
        go_wp2
        go_ret2
        exact ⟨ret_ib HHE.out, HGW.out.trans HWI.out⟩
      · have hilz : decide ((P0 : Int) < (l.length : Int)) = false := by simp; omega
        have hh : false = hb0 := by rw [← HH0.out]; simp [hitB, hil]
        have HHE := Lib.hid hh
        clear hh
        go_wp2
        go_quiet (fail)
        go_wp2
        go_ret2
        exact ⟨ret_ib HHE.out, HGW.out.drewN _⟩
end Go.Proofs.YtjaknioojpgkiaaGreatDoor

/- describe.right and describe.find, walked. The conditions: the library's own variables hold what they must; the lists are short; the values that are searched are right. -/
namespace Go.Proofs.YtjaknioojpgkiaaGreatDoor
open Go.RowKit

theorem redR_two (t : Tr) (ls : List ByteArray) (vs : List Val) : (redR t ls vs).2 = ofI t ls vs := by
  unfold redR
  rcases ofI_two t ls vs with h | h
  · rw [h]; rfl
  · rw [h]; rfl
set_option maxHeartbeats 2000000 in
theorem dRight (t : Tr) (ls : List ByteArray) (vs : List Val) (rv bv lv vv : Value) (w : World) (hE : Env w) (hr : SlI w rv t.roots) (hv : SlBr w bv t.brs) (hf : FewBr t.brs) (hrl : t.roots.length ≤ 1000000) (hl : SlS w lv ls) (hvv : SlV w vv vs) (hfv : vs.length ≤ 1000000) :
    Calls Tryz.prog 56 #[.agg #[rv, bv], lv, vv] w fun e w' => e = .returned (.int .i64 (ofI t ls vs)) ∧ Grew w w' := by
  have kR := fun W (hW : Grew w W) => iRedX t ls vs rv bv lv vv W (hE.mono hW) (hr.mono hW) (hv.mono hW) hf hrl (hl.mono hW) (hvv.mono hW) hfv
  rw [← redR_two]
  unfold RetNL at kR
  generalize redR t ls vs = R at kR ⊢
  obtain ⟨ra, re⟩ := R
  dsimp only at kR ⊢
  have KR := Lib.hid kR
  obtain ⟨Ar0, cr0, rfl, -⟩ := hr.open_
  obtain ⟨Ab0, cb0, rfl, -⟩ := hv.open_
  clear kR hE hr hv hf hrl hl hvv
  have GA := Lib.hid ((Grew.refl w).alloc (.cells #[.slice Ar0 t.roots.length cr0, .slice Ab0 t.brs.length cb0] 25))
  go_enter Tryz.func56, Tryz.ntmps56
  go_wp2_with fail
  refine (KR.out _ GA.out).mono ?_
  rintro e w1 ⟨v1, rfl, ho, g1⟩
  obtain ⟨A1, c1, rfl⟩ := own_slice ho
  have G1 := Lib.hid (GA.out.trans g1)
  clear ho g1 KR
  dsimp only
  go_wp2
  go_ret
  exact ⟨rfl, G1.out⟩
set_option maxHeartbeats 1000000 in
set_option maxRecDepth 100000 in
theorem dFind1 (a b : Val) (w : World) : Calls Tryz.prog 114 (#[a.agg, b.agg] ++ #[]) w fun e w' => e = .returned (.int .i64 (orderV a b)) ∧ Grew w w' := by
  unfold Val.agg orderV
  have h1 := Tryz.cmp_Compare_int a.unit b.unit
  have h2 := Tryz.cmp_Compare_int a.elem b.elem
  have h3 := Tryz.strings_Compare a.lang b.lang
  generalize Lib.compareInt a.unit b.unit = x1 at h1 ⊢
  generalize Lib.compareInt a.elem b.elem = x2 at h2 ⊢
  generalize Lib.compareBytes a.lang.data.toList b.lang.data.toList = x3 at h3 ⊢
  have H1 := Lib.hid h1
  have H2 := Lib.hid h2
  have H3 := Lib.hid h3
  clear h1 h2 h3
  have hs : ∀ W : World, SlI (W.alloc (.cells #[.int .i64 x1, .int .i64 x2, .int .i64 x3] 3)).drew (.slice (some ⟨W.heap.size, 0, none⟩) 3 3) [x1, x2, x3] := fun W => Rd.mono (Rd.fresh W _ 1 3 [.int .i64 x1, .int .i64 x2, .int .i64 x3] rfl (by decide)) ((Grew.refl _).drew)
  have HS := Lib.hid hs
  clear hs
  go_enter Tryz.func114, Tryz.ntmps114
  go_wp2
  refine region_still_tail 15 (by kernel_rfl) (by kernel_rfl) ?_
  simp only [List.take_succ_cons, List.take_zero, List.drop_succ_cons, List.drop_zero]
  iterate 4 still_step
  refine wpStill_step (fun K hK => ?_)
  go_simp
  refine ⟨.int .i64 x1, H1.out _, hK _ ?_⟩
  clear hK K
  iterate 4 still_step
  refine wpStill_step (fun K hK => ?_)
  go_simp
  refine ⟨.int .i64 x2, H2.out _, hK _ ?_⟩
  clear hK K
  iterate 4 still_step
  refine wpStill_step (fun K hK => ?_)
  go_simp
  refine ⟨.int .i64 x3, H3.out _, hK _ ?_⟩
  clear hK K
  refine wpStill_nil ?_
  go_wp2_with fail
  refine (cmpOr_any [x1, x2, x3] _ _ ?_).mono ?_
  · have := HS.out ((w.alloc (.cells #[.int .i64 a.unit, .int .i64 a.elem, .string a.lang, .string a.text] 29)).alloc (.cells #[.int .i64 b.unit, .int .i64 b.elem, .string b.lang, .string b.text] 29))
    simpa using this
  rintro e w1 ⟨rfl, rfl⟩
  go_wp2
  go_ret
  exact ⟨rfl, ((((Grew.refl w).alloc _).alloc _).alloc _).drew⟩
theorem enters_dFind1 : ∀ args w, (callFunc 114 args).run Tryz.prog w = .ok (.enter 114 args) w := enters_of Tryz.func114 (by kernel_rfl) rfl
set_option maxHeartbeats 2000000 in
theorem dFind (vs : List Val) (hs : vs.Pairwise ltV) (hlen : vs.length ≤ 1000000) (x : Val) (v : Value) (w : World) (hv : SlV w v vs) :
    Calls Tryz.prog 58 #[v, x.agg] w fun e w' => e = .returned (.tuple #[.int .i64 ((vs.filter fun y => lessV y x).length : Nat), .bool (hitB (fun y => decide (orderV y x = 0)) vs (vs.filter fun y => lessV y x).length)]) ∧ Grew w w' := by
  have k := fun W (hW : Grew w W) => searchV vs x (fun y => orderV y x) 114 enters_dFind1 v W (hv.mono hW) hlen (fun W y => dFind1 y x W) (fun i j hi hj hij h => by
    rcases Nat.lt_or_eq_of_le hij with hlt | rfl
    · have := List.pairwise_iff_getElem.1 hs i j hi hj hlt
      exact (orderV_lt _ _).2 (ltV_trans this ((orderV_lt _ _).1 h))
    · exact h)
  simp only [put_passes x hs] at k
  generalize hitB (fun y => decide (orderV y x = 0)) vs (vs.filter fun y => lessV y x).length = hb at k ⊢
  generalize (vs.filter fun y => lessV y x).length = n at k ⊢
  obtain ⟨xu, xe, xl, xt⟩ := x
  unfold Val.agg at k ⊢
  dsimp only at k ⊢
  have K := Lib.hid k
  clear k hs hv
  go_enter Tryz.func58, Tryz.ntmps58
  go_wp2_with fail
  refine (K.out _ ((Grew.refl w).alloc _)).mono ?_
  rintro e w1 ⟨rfl, g1⟩
  have G1 := Lib.hid (((Grew.refl w).alloc _).trans g1)
  clear g1 K
  dsimp only
  go_wp2
  go_ret2
  exact ⟨rfl, G1.out⟩
end Go.Proofs.YtjaknioojpgkiaaGreatDoor
