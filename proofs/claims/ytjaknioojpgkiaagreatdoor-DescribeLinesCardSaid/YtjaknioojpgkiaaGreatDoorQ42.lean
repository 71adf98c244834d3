/- Lemmas on what the functions of the program and of the library compute: PlainSe, PlainBa, PlainUn, Ldm, DelV, N5, N7, N8, N9. The conditions stand at each. -/
import Derived.Test.YtjaknioojpgkiaaGreatDoorQ40
import Derived.Maps.OwnIn
import Derived.Test.YtjaknioojpgkiaaGreatDoorQ22
import Derived.Test.YtjaknioojpgkiaaGreatDoorQ32
import Derived.Test.YtjaknioojpgkiaaGreatDoorQ41
import Derived.Test.YtjaknioojpgkiaaGreatDoorQ19
import Derived.Test.YtjaknioojpgkiaaGreatDoorQ8
import Derived.Test.YtjaknioojpgkiaaGreatDoorQ39
import Derived.Test.YtjaknioojpgkiaaGreatDoorQ18
import Derived.Test.YtjaknioojpgkiaaGreatDoorQ35
/- Behind setting a value: the unit has it, the values are normal, and only the unit and those below it read differently. No condition. -/
namespace Go.Proofs.YtjaknioojpgkiaaGreatDoor
open Go.RowKit

theorem inL_mem {ls : List ByteArray} {s : ByteArray} (h : inL ls s = true) : s ∈ ls := by
  unfold inL at h
  obtain ⟨y, hy, e⟩ := List.any_eq_true.1 h
  rw [bytes_inj (beq_iff_eq.1 e)]
  exact hy
/-- What Set returned is the normal form of the values with the new one, which is right. -/
theorem set_is {t : Tr} {ls : List ByteArray} {vs : List Val} {v : Val} (h : (setR t ls vs v).2 = 0) : RightT t ∧ RightV ls vs ∧ RightV ls (putV v vs) ∧ valE t ls vs v = 0 ∧ (setR t ls vs v).1 = normF t (putV v vs) := by
  unfold setR at h ⊢
  by_cases h1 : ofI t ls vs = 0
  · rw [if_neg (fun k => k h1)] at h ⊢
    by_cases h2 : valE t ls vs v = 0
    · rw [if_neg (fun k => k h2)] at h ⊢
      by_cases h3 : 1024 < (putV v vs).length
      · rw [if_pos h3] at h; cases h
      · rw [if_neg h3] at h ⊢
        obtain ⟨hT, hR⟩ := ofI_zero.1 h1
        exact ⟨hT, hR, put_right hR (valE_good hT h2).1 (by omega), h2, rfl⟩
    · rw [if_pos h2] at h
      exact absurd h h2
  · rw [if_pos h1] at h; cases h
end Go.Proofs.YtjaknioojpgkiaaGreatDoor

/- Clearing what was set, where there was no value before, plainly. No condition. -/
namespace Go.Proofs.YtjaknioojpgkiaaGreatDoor
open Go.RowKit

/-- The text that a unit has of an element in a language. -/
def txtF (t : Tr) (vs : List Val) (u n : Int) (lang : ByteArray) : Option ByteArray := (foundF t.brs vs u n lang).map (·.text)
theorem txt_none {t : Tr} {u : Int} (h : brFind t.brs u = none) (vs : List Val) (n : Int) (lang : ByteArray) : txtF t vs u n lang = none := by
  unfold txtF foundF
  rw [wayL_none h]
  rfl
theorem txt_step {t : Tr} (hT : RightT t) {u : Int} {b : Br} (h : brFind t.brs u = some b) (vs : List Val) (n : Int) (lang : ByteArray) :
    txtF t vs u n lang = match getF vs u n lang with | some s => some s | none => if (kindOf n).inh = true then txtF t vs b.parent n lang else none := by
  unfold txtF
  rw [found_step hT h]
  unfold ownV
  cases getF vs u n lang with
  | some s => rfl
  | none =>
    dsimp only [Option.map_none]
    split <;> rfl
theorem sameT_txt {x : ByteArray} {o : Option Val} : sameT x o = true ↔ o.map (·.text) = some x := by
  cases o with
  | none => simp [sameT]
  | some v =>
    unfold sameT
    constructor
    · intro h
      have := bytes_inj (beq_iff_eq.1 (show (v.text.toList == x.toList) = true from h))
      simp [this]
    · intro h
      have : v.text = x := by simpa using h
      show (v.text.toList == x.toList) = true
      rw [this]
      simp
section
variable {t : Tr} {ls : List ByteArray} {vs : List Val} {v : Val}
end
end Go.Proofs.YtjaknioojpgkiaaGreatDoor

/- What is inherited may be repeated: the normal form stays. Plainly, no condition. -/
namespace Go.Proofs.YtjaknioojpgkiaaGreatDoor
open Go.RowKit

theorem ltV_ext : ∀ {l m : List Val}, l.Pairwise ltV → m.Pairwise ltV → (∀ x, x ∈ l ↔ x ∈ m) → l = m
  | [], [], _, _, _ => rfl
  | [], b :: m, _, _, h => by have := (h b).2 List.mem_cons_self; cases this
  | a :: l, [], _, _, h => by have := (h a).1 List.mem_cons_self; cases this
  | a :: l, b :: m, hl, hm, h => by
    rw [List.pairwise_cons] at hl hm
    obtain ⟨h1, h2⟩ := hl
    obtain ⟨k1, k2⟩ := hm
    have hab : a = b := by
      rcases List.mem_cons.1 ((h a).1 List.mem_cons_self) with e | ha
      · exact e
      · rcases List.mem_cons.1 ((h b).2 List.mem_cons_self) with e | hb
        · exact e.symm
        · exact absurd (h1 b hb) (ltV_asym (k1 a ha))
    subst hab
    have hirr : ¬ ltV a a := ltV_irr ⟨rfl, rfl, rfl⟩
    rw [ltV_ext h2 k2 fun x => ?_]
    constructor
    · intro hx
      rcases List.mem_cons.1 ((h x).1 (List.mem_cons_of_mem _ hx)) with e | hx2
      · rw [e] at hx; exact absurd (h1 a hx) hirr
      · exact hx2
    · intro hx
      rcases List.mem_cons.1 ((h x).2 (List.mem_cons_of_mem _ hx)) with e | hx2
      · rw [e] at hx; exact absurd (k1 a hx) hirr
      · exact hx2
/-- Some values with repetitions of what is inherited. -/
structure WideOk (t : Tr) (ls : List ByteArray) (n W : List Val) : Prop where
  right : RightV ls W
  old : ∀ y ∈ n, y ∈ W
  new : ∀ y ∈ W, y ∉ n → (∃ b, brFind t.brs y.unit = some b) ∧ (kindOf y.elem).inh = true ∧ getF n y.unit y.elem y.lang = none ∧ txtF t n y.unit y.elem y.lang = some y.text
theorem WideOk.start {t : Tr} {ls : List ByteArray} {n : List Val} (h : RightV ls n) : WideOk t ls n n := ⟨h, fun _ h => h, fun _ h k => absurd h k⟩
theorem key_no {ls : List ByteArray} {vs : List Val} (hR : RightV ls vs) {x : Val} (h : getF vs x.unit x.elem x.lang = none) : ∀ y ∈ vs, ¬ sameK y x := by
  rintro y hy ⟨h1, h2, h3⟩
  have := getF_each hR y hy
  rw [h1, h2, h3, h] at this
  cases this
theorem put_perm {vs : List Val} (hs : vs.Pairwise ltV) {x : Val} (hn : ∀ y ∈ vs, ¬ sameK y x) : (vs ++ [x]).Perm (putV x vs) := by
  rcases put_split x hs with ⟨y, hy, e⟩ | ⟨-, e⟩
  · exact absurd hy (hn y (by rw [e]; simp))
  · unfold putV
    conv => lhs; rw [e]
    rw [List.append_assoc]
    exact List.Perm.append_left _ (List.perm_append_comm.trans (by simp))
theorem WideOk.add {t : Tr} {ls : List ByteArray} {n W : List Val} (h : WideOk t ls n W) (hl : W.length < 1024) {x : Val} (hg : goodV ls x) (hb : ∃ b, brFind t.brs x.unit = some b) (hi : (kindOf x.elem).inh = true) (hn : getF W x.unit x.elem x.lang = none) (ht : txtF t n x.unit x.elem x.lang = some x.text) :
    WideOk t ls n (putV x W) ∧ (W ++ [x]).Perm (putV x W) := by
  have hk := key_no h.right hn
  have hp := put_perm h.right.2.2.2 hk
  have hlen : (putV x W).length ≤ 1024 := by
    rw [← hp.length_eq, List.length_append]
    simp only [List.length_cons, List.length_nil]
    omega
  refine ⟨⟨put_right h.right hg hlen, fun y hy => put_mem (h.old y hy) (hk y (h.old y hy)), fun y hy hyn => ?_⟩, hp⟩
  rcases mem_put hy with rfl | ⟨hyW, -⟩
  · refine ⟨hb, hi, ?_, ht⟩
    cases hg2 : getF n y.unit y.elem y.lang with
    | none => rfl
    | some s =>
      have := getF_each h.right _ (h.old _ (get_there hg2))
      dsimp only at this
      rw [hn] at this
      cases this
  · exact h.new y hyW hyn
section
variable {t : Tr} {ls : List ByteArray} {n W : List Val}
theorem wide_get (h : WideOk t ls n W) (hr : RightV ls n) (u e : Int) (lang : ByteArray) : (∀ s, getF n u e lang = some s → getF W u e lang = some s) ∧ (getF n u e lang = none → ∀ s, getF W u e lang = some s → (∃ b, brFind t.brs u = some b) ∧ (kindOf e).inh = true ∧ txtF t n u e lang = some s) := by
  constructor
  · intro s hs
    exact getF_each h.right _ (h.old _ (get_there hs))
  · intro hno s hs
    have hin := get_there hs
    have hnn : (⟨u, e, lang, s⟩ : Val) ∉ n := fun k => by
      have := getF_each hr _ k
      dsimp only at this
      rw [hno] at this
      cases this
    obtain ⟨h1, h2, -, h4⟩ := h.new _ hin hnn
    exact ⟨h1, h2, h4⟩
theorem wide_txt (hT : RightT t) (h : WideOk t ls n W) (hr : RightV ls n) (e : Int) (lang : ByteArray) : ∀ (k : Nat) (u : Int), (wayL t.brs u).length ≤ k → txtF t W u e lang = txtF t n u e lang := by
  intro k
  induction k with
  | zero =>
    intro u hk
    have hw : wayL t.brs u = [] := List.eq_nil_of_length_eq_zero (by omega)
    unfold txtF foundF
    rw [hw]
    rfl
  | succ k ih =>
    intro u hk
    cases hu : brFind t.brs u with
    | none => rw [txt_none hu, txt_none hu]
    | some b =>
      have hs := wayL_step hT hu
      rw [hs] at hk
      have hup := ih b.parent (by simp only [List.length_cons] at hk; omega)
      obtain ⟨h1, h2⟩ := wide_get h hr u e lang
      cases hg : getF n u e lang with
      | some s => rw [txt_step hT hu, txt_step hT hu, h1 s hg, hg]
      | none =>
        cases hw : getF W u e lang with
        | some s =>
          rw [(h2 hg s hw).2.2, txt_step hT hu, hw]
        | none =>
          rw [txt_step hT hu, txt_step hT hu, hg, hw, hup]
theorem wide_norm (hT : RightT t) (h : WideOk t ls n W) (hr : RightV ls n) (hn : ∀ y ∈ n, redB t n y = false) : normF t W = n := by
  have hx := fun e lang u => wide_txt hT h hr e lang _ u (Nat.le_refl _)
  refine ltV_ext (h.right.2.2.2.filter _) hr.2.2.2 fun y => ?_
  unfold normF
  rw [List.mem_filter]
  have hrb : redB t W y = redB t n y := by
    rw [redB_ref, redB_ref]
    rw [sameT_text (hx _ _ _)]
  constructor
  · rintro ⟨hy, hb⟩
    by_cases hyn : y ∈ n
    · exact hyn
    · exfalso
      obtain ⟨⟨b, hbb⟩, h2, h3, h4⟩ := h.new y hy hyn
      rw [txt_step hT hbb, h3] at h4
      dsimp only at h4
      rw [if_pos h2] at h4
      rw [hrb, redB_at hbb, h2, sameT_txt.2 h4] at hb
      cases hb
  · intro hy
    exact ⟨h.old y hy, by rw [hrb, hn y hy]; rfl⟩
/-- The normal form of the values with repetitions is the normal form. -/
theorem wide_normR (hT : RightT t) (h : WideOk t ls n W) (hr : RightV ls n) (hn : ∀ y ∈ n, redB t n y = false) : normR t ls W = (n, 0) := by
  unfold normR
  rw [if_pos (ofI_zero.2 ⟨hT, h.right⟩), wide_norm hT h hr hn]
end
/-- What is found upwards can be repeated. -/
theorem wide_new {t : Tr} {ls : List ByteArray} {n W : List Val} {v w : Val} (hT : RightT t) (hr : RightV ls n) (h : WideOk t ls n W) (hl : W.length < 1024) (ha : askI t ls n v.unit v.elem v.lang = 0) (hf : foundF t.brs n v.unit v.elem v.lang = some w) (hi : (kindOf v.elem).inh = true) (hn : getF W v.unit v.elem v.lang = none) :
    w.elem = v.elem ∧ w.lang = v.lang ∧ WideOk t ls n (putV ⟨v.unit, w.elem, w.lang, w.text⟩ W) ∧ (W ++ [(⟨v.unit, w.elem, w.lang, w.text⟩ : Val)]).Perm (putV ⟨v.unit, w.elem, w.lang, w.text⟩ W) := by
  obtain ⟨-, ⟨b, hb⟩, hel, -⟩ := askI_zero.1 ha
  obtain ⟨k, hk, h1, h2, h3, h4, -⟩ := along_source hf
  have hmem : w ∈ n := by
    have := get_there h4
    rw [← h1] at this
    obtain ⟨a, c, d, e⟩ := w
    dsimp only at h2 h3 this
    subst h2 h3
    exact this
  obtain ⟨hin, hid⟩ := find_in hb
  have hw : 1 ≤ b.id ∧ b.id ≤ 1073741824 := by
    have := ((right_sound hT).units b hin).1
    simpa [within] using this
  have hgw := hr.2.2.1 w hmem
  refine ⟨h2, h3, h.add (x := ⟨v.unit, w.elem, w.lang, w.text⟩) hl ⟨?_, ?_, hgw.2.2.1, hgw.2.2.2.1, hgw.2.2.2.2⟩ ⟨b, hb⟩ ?_ ?_ ?_⟩
  · show 1 ≤ v.unit; omega
  · show v.unit ≤ 1073741824; omega
  · show (kindOf w.elem).inh = true
    rw [h2]; exact hi
  · show getF W v.unit w.elem w.lang = none
    rw [h2, h3]; exact hn
  · show txtF t n v.unit w.elem w.lang = some w.text
    rw [h2, h3]
    unfold txtF
    rw [hf]
    rfl
end Go.Proofs.YtjaknioojpgkiaaGreatDoor

/- What the walks of the laws of layer 29 share. No condition. -/
namespace Go.Proofs.YtjaknioojpgkiaaGreatDoor
open Go.RowKit

theorem lit1V (vu ve : Int) (vl vt : ByteArray) (W : World) : SlV (W.alloc (.cells #[.int .i64 vu, .int .i64 ve, .string vl, .string vt] 29)) (.slice (some ⟨W.heap.size, 0, none⟩) 1 1) [⟨vu, ve, vl, vt⟩] := by
  have := Rd.fresh W 29 4 1 (Val.cells ⟨vu, ve, vl, vt⟩) rfl (by decide)
  simpa [SlV, Val.cells] using this
theorem few27q (ls : List ByteArray) (vs : List Val) (lv vv : Value) (W : World) (hl : SlS W lv ls) (hv : SlV W vv vs) :
    Calls Tryz.prog 12 #[lv, vv] W fun e w' => ∃ q, e = .returned (.bool q) ∧ Grew W w' := by
  refine (few_any ls vs lv vv W hl hv).mono ?_
  rintro e w' ⟨h, rfl⟩
  rcases h with rfl | ⟨rfl, -, -⟩
  · exact ⟨_, rfl, Grew.refl _⟩
  · exact ⟨_, rfl, Grew.refl _⟩
theorem get_is29 {vs : List Val} {u n : Int} {lang : ByteArray} {s : Bool} (h : (getF vs u n lang).isSome = s) (v : Value) (w : World) (hv : SlV w v vs) :
    Calls Tryz.prog 30 #[v, .int .i64 u, .int .i64 n, .string lang] w fun e w' => (∃ x, e = .returned (.tuple #[.string x, .bool s])) ∧ Grew w w' := by
  rw [← h]
  exact (get_any vs u n lang v w hv).mono fun e w' h => ⟨⟨_, h.1⟩, h.2⟩
end Go.Proofs.YtjaknioojpgkiaaGreatDoor

/- slices.Delete of one value, on a row of the call's own; all other blocks are as they were. No condition but the sizes that a slice can have. -/
namespace Go.Proofs.YtjaknioojpgkiaaGreatDoor
open Go.RowKit

theorem own_stretchV {w : World} {base : Nat} {e : TypeId} {k g m n cap : Nat} {xs : List Value} (h : w.ownsRow base e k (.slice (some ⟨g, 0, none⟩) m cap) m xs) (hmn : m ≤ n) (hn : n ≤ cap) : ∃ ds, w.ownsRow base e k (.slice (some ⟨g, 0, none⟩) n cap) n ds ∧ ds.take (m * k) = xs := by
  obtain ⟨hl, h2⟩ := h
  rcases h2 with ⟨h3, _⟩ | ⟨g', cap', cur, hv, hb, hh, hnc, hcm, hcs, htk⟩
  · cases h3
  · injection hv with hA _ hc
    injection hA with hA
    injection hA with hA _ _
    subst hA hc
    have hmk : m * k ≤ n * k := Nat.mul_le_mul_right k hmn
    have hnk : n * k ≤ cap * k := Nat.mul_le_mul_right k hn
    refine ⟨cur.toList.take (n * k), ⟨?_, .inr ⟨g, cap, cur, rfl, hb, hh, hn, hcm, hcs, rfl⟩⟩, ?_⟩
    · rw [List.length_take, Array.length_toList, hcs]
      omega
    · rw [List.take_take, Nat.min_eq_left hmk]
      exact htk
theorem delDoneV {w0 w2 : World} {base g cap N k : Nat} {e : TypeId} {xs ds ds2 : List Value} (hds : ds.take (N * k) = xs) (h3 : w2.ownsRow base e k (.slice (some ⟨g, 0, none⟩) (N + 1) cap) (N + 1) ds2) (hd : ∀ t, t < N * k → ds2[t]? = ds[t]?) (hg : w0.grownBy w2 (some g)) :
    w2.ownsRow base e k (.slice (some ⟨g, 0, none⟩) N cap) N xs ∧ w0.grownBy w2 (some g) := by
  have h4 := own_cut h3 N (Nat.le_succ _)
  have : ds2.take (N * k) = xs := by
    rw [← hds]
    apply List.ext_getElem?
    intro t
    rw [List.getElem?_take, List.getElem?_take]
    split
    · next ht => exact hd t ht
    · rfl
  rw [this] at h4
  exact ⟨h4, hg⟩
set_option maxHeartbeats 4000000 in
set_option maxRecDepth 100000 in
theorem deleteV (base : Nat) (cs : List Val) (i : Nat) (hi : i < cs.length) (v : Value) (w : World) (hown : w.ownsRow base 29 4 v cs.length (cs.flatMap Val.cells)) (hl : cs.length ≤ 1000000) :
    Calls Tryz.prog 69 #[v, .int .i64 i, .int .i64 ((i : Int) + 1)] w fun e w' => ∃ v', e = .returned v' ∧ w'.ownsRow base 29 4 v' (cs.eraseIdx i).length ((cs.eraseIdx i).flatMap Val.cells) ∧ w.grownBy w' v.ownBlock ∧ v'.ownBlock = v.ownBlock := by
  obtain ⟨g, cap, rfl, hbg, hglt, hcap⟩ := own_form hown (by omega)
  have hcm : cap ≤ maxLen := own_max hown
  unfold maxLen at hcm
  obtain ⟨i0, hi0, hz0, hz1, hz2⟩ := info_parts cinfoV
  obtain ⟨N, hN⟩ : ∃ N, cs.length = N + 1 := ⟨cs.length - 1, by omega⟩
  have hfl := flatMap_len Val.cells 4 (fun _ => rfl) cs
  obtain ⟨ht, hd⟩ := flat_take (f := Val.cells) (k := 4) (fun _ => rfl) cs i
  obtain ⟨-, hd1⟩ := flat_take (f := Val.cells) (k := 4) (fun _ => rfl) cs (i + 1)
  have hcut := own_cut hown i (by omega)
  have hE : (cs.eraseIdx i).flatMap Val.cells = (cs.flatMap Val.cells).take (i * 4) ++ (cs.flatMap Val.cells).drop ((i + 1) * 4) := by
    rw [List.eraseIdx_eq_take_drop_succ, List.flatMap_append, ht, hd1]
  have hEl : (cs.eraseIdx i).length = N := by rw [List.length_eraseIdx_of_lt hi, hN]; omega
  have hnl : ((cs.flatMap Val.cells).drop ((i + 1) * 4)).length = (N - i) * 4 := by rw [List.length_drop, hfl, hN, ← Nat.sub_mul]; congr 1; omega
  -- the append
  have happ : ∀ a : Addr, (0 < N - i → a = ⟨g, (i + 1) * 4, none⟩) → ∃ w', (∀ ty, (Builtin.append_ #[27, 27] ty #[.slice (some ⟨g, 0, none⟩) i cap, .slice (some a) (N - i) (cap - (i + 1))]).run Tryz.prog w.drew = .ok (.slice (some ⟨g, 0, none⟩) N cap) w') ∧ w'.ownsRow base 29 4 (.slice (some ⟨g, 0, none⟩) N cap) N ((cs.eraseIdx i).flatMap Val.cells) ∧ w.grownBy w' (some g) := by
    intro a ha
    obtain ⟨w', h1, h2, h3⟩ := run_append_fits (P := Tryz.prog) w.drew base 27 0 29 i0 4 Tryz.underlying27 hi0 hz1 g i cap _ hcut a (N - i) (cap - (i + 1)) ((cs.flatMap Val.cells).drop ((i + 1) * 4)) hnl (fun j u hj => by
      have hpos : 0 < N - i := by
        have := (List.getElem?_eq_some_iff.1 hj).1
        omega
      rw [ha hpos, add_lit]
      have hc := hown.cellAt ((i + 1) * 4 + j) (by have := (List.getElem?_eq_some_iff.1 hj).1; omega)
      show w.cell? _ = _
      rw [hc, ← List.getElem?_drop]
      exact hj) (fun u hu => one_cellsV cs u (List.mem_of_mem_drop hu)) (by omega)
    rw [show i + (N - i) = N by omega] at h1 h2
    refine ⟨w', fun ty => h1, ?_, ⟨h3.os, h3.tape, h3.output, h3.size, h3.block⟩⟩
    rw [hE]
    exact h2
  rw [hEl]
  generalize (cs.eraseIdx i).flatMap Val.cells = XS at happ ⊢
  rw [hN] at hcap hi hown ⊢
  clear hfl ht hd hd1 hE hEl hnl hown hcut hl hN
  have hiz : (i : Int) ≤ ((N + 1 : Nat) : Int) := by omega
  have hi1 : ((i : Int) + 1) ≤ ((N + 1 : Nat) : Int) := by omega
  have h0z : (0 : Int) ≤ (i : Int) := by omega
  have h1z : (0 : Int) ≤ (i : Int) + 1 := by omega
  have hiz2 : (i : Int) ≤ (i : Int) + 1 := by omega
  have hne : ((i : Int) == (i : Int) + 1) = false := beq_eq_false_iff_ne.2 (by omega)
  have htn : ((i : Int) + 1).toNat = i + 1 := by omega
  have hi2 : i ≤ N + 1 := by omega
  have hi3 : i + 1 ≤ N + 1 := by omega
  have hi4 : i ≤ N := by omega
  have hi5 : i ≤ cap := by omega
  have hsub : N + 1 - (i + 1) = N - i := by omega
  by_cases hcc : cap = i + 1
  · obtain ⟨w1, hrun, ho1, hg1⟩ := happ ⟨g, 0, none⟩ (by omega)
    obtain rfl : N = i := by omega
    subst hcc
    simp only [Nat.sub_self] at hrun
    clear happ
    go_enter Tryz.func69, Tryz.ntmps69
    go_wp2_with fail
    refine region_still_tail 6 (by kernel_rfl) (by kernel_rfl) ?_
    simp only [List.take_succ_cons, List.take_zero, List.drop_succ_cons, List.drop_zero]
    iterate 6 still_step
    refine wpStill_nil ?_
    refine Lib.wpList_append_run _ rfl _ _ _ _ rfl _ _ rfl rfl _ _ (hrun _) ?_
    obtain ⟨ds, ho2, hds⟩ := own_stretchV ho1 (Nat.le_succ _) (Nat.le_refl _)
    obtain ⟨w2, ds2, hclr, ho3, hg3, hd3⟩ := run_clear_own (P := Tryz.prog) w1 27 29 0 (.agg #[.int .i64 0, .int .i64 0, .string ⟨#[]⟩, .string ⟨#[]⟩]) 4 Tryz.underlying27 Tryz.zeroValue29 rfl (by omega) (by simp [Value.cells, Value.oneCell']) ho2 N ((N + 1) - N) (Nat.lt_succ_self _)
    have hclr' : ∀ ty, (Builtin.clear_ #[27] ty #[.slice (some ⟨g, N * 4, none⟩) 1 1]).run Tryz.prog w1 = .ok (.tuple #[]) w2 := fun _ => by
      have h := hclr
      rw [show N + 1 - N = 1 by omega] at h
      exact h
    have HFIN := Lib.hid (delDoneV hds ho3 (fun t ht => hd3 t ht) (hg1.trans hg3))
    have hnz : (0 : Int) ≤ (N : Int) := by omega
    have hnz1 : (N : Int) ≤ ((N + 1 : Nat) : Int) := by omega
    have hnn : ¬ (N + 1) = N := by omega
    have hsb : N + 1 - N = 1 := by omega
    clear ho1 hg1 hrun ho2 hds hclr ho3 hg3 hd3
    go_wp2
    go_ret
    exact ⟨_, rfl, HFIN.out.1, HFIN.out.2, rfl⟩
  · obtain ⟨w1, hrun, ho1, hg1⟩ := happ ⟨g, (i + 1) * 4, none⟩ (fun _ => rfl)
    clear happ
    go_enter Tryz.func69, Tryz.ntmps69
    go_wp2_with fail
    refine region_still_tail 6 (by kernel_rfl) (by kernel_rfl) ?_
    simp only [List.take_succ_cons, List.take_zero, List.drop_succ_cons, List.drop_zero]
    iterate 6 still_step
    refine wpStill_nil ?_
    refine Lib.wpList_append_run _ rfl _ _ _ _ rfl _ _ rfl rfl _ _ (hrun _) ?_
    obtain ⟨ds, ho2, hds⟩ := own_stretchV ho1 (Nat.le_succ _) hcap
    obtain ⟨w2, ds2, hclr, ho3, hg3, hd3⟩ := run_clear_own (P := Tryz.prog) w1 27 29 0 (.agg #[.int .i64 0, .int .i64 0, .string ⟨#[]⟩, .string ⟨#[]⟩]) 4 Tryz.underlying27 Tryz.zeroValue29 rfl (by omega) (by simp [Value.cells, Value.oneCell']) ho2 N (cap - N) (Nat.lt_succ_self _)
    have hclr' : ∀ ty, (Builtin.clear_ #[27] ty #[.slice (some ⟨g, N * 4, none⟩) 1 (cap - N)]).run Tryz.prog w1 = .ok (.tuple #[]) w2 := fun _ => by
      have h := hclr
      rw [show N + 1 - N = 1 by omega] at h
      exact h
    have HFIN := Lib.hid (delDoneV hds ho3 (fun t ht => hd3 t ht) (hg1.trans hg3))
    have hnz : (0 : Int) ≤ (N : Int) := by omega
    have hnz1 : (N : Int) ≤ ((N + 1 : Nat) : Int) := by omega
    have hnn : ¬ cap = N := by omega
    have hsb : N + 1 - N = 1 := by omega
    clear ho1 hg1 hrun ho2 hds hclr ho3 hg3 hd3
    go_wp2
    go_ret
    exact ⟨_, rfl, HFIN.out.1, HFIN.out.2, rfl⟩
end Go.Proofs.YtjaknioojpgkiaaGreatDoor

/- describe.Clear, walked. The conditions: the library's own variables hold what they must; the lists are short. -/
namespace Go.Proofs.YtjaknioojpgkiaaGreatDoor
open Go.RowKit

theorem norm_drop {t : Tr} {ls : List ByteArray} {vs : List Val} (h : ofI t ls vs = 0) (v : Val) : normR t ls (dropV v vs) = (normF t (dropV v vs), 0) := by
  obtain ⟨hT, hR⟩ := ofI_zero.1 h
  unfold normR
  rw [if_pos (ofI_zero.2 ⟨hT, drop_right v hR⟩)]
theorem held2 (w1 W : World) {p0 p1 : Addr} {y0 y1 : Value} (a0 : w1.cell? p0 = some y0) (a1 : w1.cell? p1 = some y1) (g : Grew w1 W) : W.cell? p0 = some y0 ∧ W.cell? p1 = some y1 ∧ Grew w1 W := ⟨keep_cell g a0, keep_cell g a1, g⟩
set_option maxHeartbeats 16000000 in
set_option maxRecDepth 100000 in
theorem dClear (t : Tr) (ls : List ByteArray) (vs : List Val) (u n : Int) (lang : ByteArray) (rv bv lv vv : Value) (w : World) (hE : Env w) (hr : SlI w rv t.roots) (hv : SlBr w bv t.brs) (hf : FewBr t.brs) (hrl : t.roots.length ≤ 1000000) (hl : SlS w lv ls) (hvv : SlV w vv vs) (hfv : vs.length ≤ 1000000) :
    Calls Tryz.prog 19 #[.agg #[rv, bv], lv, vv, .int .i64 u, .int .i64 n, .string lang] w (RetVL (clearR t ls vs ⟨u, n, lang, ⟨#[]⟩⟩) w) := by
  have kR := fun W (hW : Grew w W) => dRight t ls vs rv bv lv vv W (hE.mono hW) (hr.mono hW) (hv.mono hW) hf hrl (hl.mono hW) (hvv.mono hW) hfv
  have KC := Lib.hid (fun W (hW : Grew w W) => cloneV vs vv W (hvv.mono hW) (by omega))
  have kN := fun uv W (hW : Grew w W) (hu : SlV W uv (dropV ⟨u, n, lang, ⟨#[]⟩⟩ vs)) (hn : (dropV ⟨u, n, lang, ⟨#[]⟩⟩ vs).length ≤ 1000000) => dNormal t ls (dropV ⟨u, n, lang, ⟨#[]⟩⟩ vs) rv bv lv uv W (hE.mono hW) (hr.mono hW) (hv.mono hW) hf hrl (hl.mono hW) hu hn
  have kFI := fun (h : ofI t ls vs = 0) W (hW : Grew w W) => dFind vs (ofI_zero.1 h).2.2.2.2 hfv ⟨u, n, lang, ⟨#[]⟩⟩ vv W (hvv.mono hW)
  have hput := fun (h : ofI t ls vs = 0) => put_hit (ofI_zero.1 h).2.2.2.2 ⟨u, n, lang, ⟨#[]⟩⟩
  have HNR := Lib.hid (fun (h : ofI t ls vs = 0) => norm_drop h ⟨u, n, lang, ⟨#[]⟩⟩)
  have H01 := Lib.hid (ofI_two t ls vs)
  have HFV := Lib.hid hfv
  generalize hRES : clearR t ls vs ⟨u, n, lang, ⟨#[]⟩⟩ = RES
  unfold clearR at hRES
  generalize ofI t ls vs = N0 at kR kFI hput HNR H01 hRES
  generalize normF t (dropV ⟨u, n, lang, ⟨#[]⟩⟩ vs) = NF at HNR hRES
  generalize normR t ls (dropV ⟨u, n, lang, ⟨#[]⟩⟩ vs) = NR at kN HNR
  generalize dropV ⟨u, n, lang, ⟨#[]⟩⟩ vs = DV at kN hput HNR hRES
  generalize hitB (fun y => decide (orderV y ⟨u, n, lang, ⟨#[]⟩⟩ = 0)) vs (vs.filter fun y => lessV y ⟨u, n, lang, ⟨#[]⟩⟩).length = hb at kFI hput
  generalize (vs.filter fun y => lessV y ⟨u, n, lang, ⟨#[]⟩⟩).length = m at kFI hput
  unfold Val.agg at kFI
  dsimp only at kFI
  unfold RetVL at kN
  have HRES := Lib.hid hRES
  have KR := Lib.hid kR
  have KN := Lib.hid kN
  have KFI := Lib.hid kFI
  have HPUT := Lib.hid hput
  obtain ⟨Ar0, cr0, rfl, -⟩ := hr.open_
  obtain ⟨Ab0, cb0, rfl, -⟩ := hv.open_
  clear kR kN kFI hput hRES hE hr hv hf hrl hl hvv hfv
  have HB := Lib.hid (show ∀ W, Grew (w.alloc (.cells #[.slice Ar0 t.roots.length cr0, .slice Ab0 t.brs.length cb0] 25)) W → W.heap[w.heap.size]? = some (.cells #[.slice Ar0 t.roots.length cr0, .slice Ab0 t.brs.length cb0] 25 (0, 0)) from fun W g => heap_keepI g (heap_newI w _))
  have GA := Lib.hid ((Grew.refl w).alloc (.cells #[.slice Ar0 t.roots.length cr0, .slice Ab0 t.brs.length cb0] 25))
  unfold RetVL
  go_enter Tryz.func19, Tryz.ntmps19
  go_wp2_with fail
  generalize w.alloc (.cells #[.slice Ar0 t.roots.length cr0, .slice Ab0 t.brs.length cb0] 25) = WA at GA HB ⊢
  refine (KR.out _ GA.out).mono ?_
  rintro e w1 ⟨rfl, g1⟩
  have G1 := Lib.hid g1
  have HG1 := Lib.hid (GA.out.trans g1)
  clear g1 KR
  dsimp only
  rcases H01.out with rfl | rfl
  · have HN2 := Lib.hid (HNR.out rfl)
    have HP2 := Lib.hid (HPUT.out rfl)
    have KF2 := Lib.hid (KFI.out rfl)
    clear HNR HPUT KFI H01
    go_wp2_with fail
    refine (KF2.out _ HG1.out).mono ?_
    rintro e w2 ⟨rfl, g2⟩
    have G2 := Lib.hid (G1.out.trans g2)
    have HG2 := Lib.hid (HG1.out.trans g2)
    clear g2 KF2
    dsimp only
    rcases HP2.out with ⟨hh, hlt, -, hers, hdl⟩ | ⟨hh, -, -, hdv⟩
    · subst hh
      have hnl : ¬ DV.length = vs.length := by omega
      obtain rfl : NR = (NF, 0) := HN2.out
      obtain rfl : RES = (NF, 0) := by have := HRES.out; rw [if_neg (fun h => h rfl), if_neg hnl] at this; exact this.symm
      have HDL := Lib.hid (show DV.length ≤ 1000000 by have := HFV.out; omega)
      have HLT := Lib.hid hlt
      have HER := Lib.hid hers
      have hmb : (m : Int) < 1000000 := by have := HFV.out; omega
      have hwm : IntKind.i64.wrap ((m : Int) + 1) = (m : Int) + 1 := IntWalk.i64_in _ (by omega)
      obtain ⟨t0, t1⟩ := two_cells (HB.out _ G2.out)
      clear HRES HN2 HP2 hers hdl hlt hnl
      go_wp2
      go_cut [12, 13] from 35 to 45 (fun s12 s13 wx => s13 = .int .i64 0 ∧ Aside (wx.ownsRow w.heap.size 29 4 s12 NF.length (NF.flatMap Val.cells)) ∧ Aside (Grew w wx))
      case first =>
        go_region_held3 (fun W => W.cell? ⟨w.heap.size, 0, none⟩ = some (.slice Ar0 t.roots.length cr0) ∧ W.cell? ⟨w.heap.size, 1, none⟩ = some (.slice Ab0 t.brs.length cb0) ∧ Grew w2 W) (refine held2 w2 _ t0 t1 (by repeat (with_reducible first | exact Grew.refl _ | exact GQ3.out | exact GQ2.out | exact GQ1.out | refine Grew.drew ?_ | refine Grew.alloc ?_ _))) (first | (go_at_call 15; with_reducible refine (KC.out _ (HG2.out.trans (by repeat (with_reducible first | exact Grew.refl _ | refine Grew.drew ?_ | refine Grew.alloc ?_ _)))).mono ?_; rintro e w5 ⟨v5, rfl, ho5, gq⟩; have GQ1 := Lib.hid (show Grew w2 w5 from Grew.trans (by repeat (with_reducible first | exact Grew.refl _ | refine Grew.drew ?_ | refine Grew.alloc ?_ _)) gq); have HO5 := Lib.hid ho5; obtain ⟨A5, c5, rfl⟩ := own_slice ho5; clear ho5 gq) | (go_at_call 69; (try rw [hwm]); refine (deleteV _ vs m HLT.out _ _ (own_later HO5.out (by repeat (with_reducible first | exact Grew.refl _ | refine Grew.drew ?_ | refine Grew.alloc ?_ _))) HFV.out).mono ?_; rintro e w6 ⟨v6, rfl, ho6, hg6, -⟩; have gx := (show Grew w2 _ from GQ1.out.trans (by repeat (with_reducible first | exact Grew.refl _ | refine Grew.drew ?_ | refine Grew.alloc ?_ _))); have GQ2 := Lib.hid (show Grew w2 w6 from Below.grown gx hg6 gx.size (fun k e => (HO5.out.lt k e).1)); rw [HER.out] at ho6; obtain ⟨A6, c6, rfl⟩ := own_slice ho6; have HS6 := Lib.hid (show SlV w6 (.slice A6 DV.length c6) DV from Rd.of_own ho6); clear ho6 hg6 gx) | (go_at_call 13; refine (KN.out _ _ (HG2.out.trans (GQ2.out.trans (by repeat (with_reducible first | exact Grew.refl _ | refine Grew.drew ?_ | refine Grew.alloc ?_ _)))) (HS6.out.mono (by repeat (with_reducible first | exact Grew.refl _ | refine Grew.drew ?_ | refine Grew.alloc ?_ _))) HDL.out).mono ?_; rintro e w7 ⟨v7, rfl, ho7, gq⟩; have GQ3 := Lib.hid (show Grew w2 w7 from GQ2.out.trans (Grew.trans (by repeat (with_reducible first | exact Grew.refl _ | refine Grew.drew ?_ | refine Grew.alloc ?_ _)) gq)); obtain ⟨A7, c7, rfl⟩ := own_slice ho7; have HO7 := Lib.hid (own_base ho7 (show w.heap.size ≤ _ from (HG2.out.trans (GQ2.out.trans (by repeat (with_reducible first | exact Grew.refl _ | refine Grew.drew ?_ | refine Grew.alloc ?_ _)))).size)); clear ho7 gq))
        all_goals go_wp2_with fail
        all_goals go_meet
        all_goals exact ⟨rfl, (show Aside _ from HO7.out), (show Aside _ from HG2.out.trans GQ3.out)⟩
      case rest =>
        obtain ⟨rfl, HO, GC⟩ := hcut
        clear t0 t1
        go_wp2
        go_ret2
        exact ⟨_, rfl, HO.out, GC.out⟩
    · subst hh
      obtain rfl : RES = ([], 7) := by have := HRES.out; rw [if_neg (fun h => h rfl), if_pos (by rw [hdv])] at this; exact this.symm
      clear HRES HN2 HP2 KC KN hdv
      go_wp2
      go_ret2
      exact ⟨_, rfl, World.ownsRow_nil _ _ _ _, HG2.out⟩
  · obtain rfl : RES = ([], 1) := by have := HRES.out; rw [if_pos (by decide)] at this; exact this.symm
    clear HRES HNR HPUT KFI H01 KC KN
    go_wp2
    go_ret2
    exact ⟨_, rfl, World.ownsRow_nil _ _ _ _, HG1.out⟩
end Go.Proofs.YtjaknioojpgkiaaGreatDoor

/- The reference's has of layer 29, walked. No condition. -/
namespace Go.Proofs.YtjaknioojpgkiaaGreatDoor
open Go.RowKit

theorem inL_no {ls : List ByteArray} {s : ByteArray} (h : ∀ i (hi : i < ls.length), (ls[i].toList == s.toList) = false) : inL ls s = false := by
  unfold inL
  rw [List.any_eq_false]
  intro y hy
  obtain ⟨i, hi, rfl⟩ := List.mem_iff_getElem.1 hy
  have := h i hi
  rw [BEq.comm] at this
  rw [this]
  decide
theorem inL_yes {ls : List ByteArray} {s : ByteArray} {i : Nat} (hi : i < ls.length) (h : (ls[i].toList == s.toList) = true) : inL ls s = true := by
  unfold inL
  rw [List.any_eq_true]
  exact ⟨ls[i], List.getElem_mem hi, by rw [BEq.comm]; exact h⟩
set_option maxHeartbeats 1000000 in
theorem refHas29 (ls : List ByteArray) (s : ByteArray) (v : Value) (w : World) (hv : SlS w v ls) : Calls Tryz.prog 64 #[v, .string s] w fun e w' => e = .returned (.bool (inL ls s)) ∧ w = w' := by
  obtain ⟨A, c, rfl, hlc, hc, hr⟩ := hv.open_
  unfold maxLen at hc
  have HR := Lib.hid hr
  have HNO := Lib.hid (fun h => inL_no (ls := ls) (s := s) h)
  have HYES := Lib.hid (fun i hi h => inL_yes (ls := ls) (s := s) (i := i) hi h)
  generalize inL ls s = R at HNO HYES ⊢
  clear hv hr
  go_enter Tryz.func64, Tryz.ntmps64
  go_wp2
  go_loopg [5] ls.length (fun gg s5 wr => ∃ k : Nat, k ≤ ls.length ∧ ls.length - k ≤ gg ∧ s5 = .int .i64 (k : Int) ∧ Aside (∀ i (hi : i < ls.length), i < k → (ls[i].toList == s.toList) = false) ∧ Aside (w = wr))
  case atStart => exact ⟨0, by omega, by omega, rfl, (show Aside _ from fun i _ h => absurd h (Nat.not_lt_zero _)), (show Aside _ from rfl)⟩
  case round =>
    obtain ⟨k, hk, hgk, rfl, M, HW⟩ := hrel
    obtain rfl := HW.out
    by_cases hlt : k < ls.length
    · have hltz : (k : Int) < (ls.length : Int) := by omega
      have h0z : (0 : Int) ≤ (k : Int) := by omega
      obtain ⟨b, off, rfl, hb, hcell⟩ := HR.out (by omega)
      have c0 := hcell _ (Grew.refl _) k hlt
      have hy := HYES.out k hlt
      have hn : (ls[k].toList == s.toList) = false → ∀ i (hi : i < ls.length), i < k + 1 → (ls[i].toList == s.toList) = false := fun h i hi hik => by
        by_cases e : i = k
        · subst e
          exact h
        · exact M.out i hi (by omega)
      have HN := Lib.hid hn
      have HY := Lib.hid hy
      clear hcell M hn hy
      cases hq : (ls[k].toList == s.toList) with
      | true =>
        obtain rfl := HY.out hq
        generalize ls[k] = y at c0 hq
        clear HN HY HNO HYES
        go_wp2
        go_ret
        exact ⟨rfl, rfl⟩
      | false =>
        have HN2 := Lib.hid (HN.out hq)
        generalize ls[k] = y at c0 hq
        clear HN HY
        go_wp2
        go_roundg (ls.length - (k + 1))
        case measure => omega
        case rel => exact ⟨k + 1, by omega, by omega, by go_num, (show Aside _ from HN2.out), (show Aside _ from rfl)⟩
    · have hltz : ¬ (k : Int) < (ls.length : Int) := by omega
      obtain rfl : R = false := HNO.out (fun i hi => M.out i hi (by omega))
      clear M
      go_wp2
      go_ret
      exact ⟨rfl, rfl⟩
end Go.Proofs.YtjaknioojpgkiaaGreatDoor

/- The reference's Normal of layer 29, walked. The condition: the lists are short. -/
namespace Go.Proofs.YtjaknioojpgkiaaGreatDoor
open Go.RowKit

/-- The indices from one on for which P holds. -/
def restI (P : Nat → Bool) (n k : Nat) : List Int := ((List.range' k (n - k)).filter P).map fun (i : Nat) => (i : Int)
theorem restI_zero (P : Nat → Bool) (n : Nat) : restI P n 0 = firstI P n := by
  unfold restI firstI
  rw [Nat.sub_zero, List.range_eq_range']
theorem restI_step {P : Nat → Bool} {n k : Nat} (h : k < n) : restI P n k = if P k then (k : Int) :: restI P n (k + 1) else restI P n (k + 1) := by
  unfold restI
  obtain ⟨m, hm⟩ : ∃ m, n - k = m + 1 := ⟨n - k - 1, by omega⟩
  have hm2 : n - (k + 1) = m := by omega
  rw [hm, hm2, List.range'_succ]
  by_cases hp : P k = true
  · simp [hp]
  · simp [hp]
theorem restI_lo {P : Nat → Bool} {n k : Nat} {x : Int} (h : x ∈ restI P n k) : (k : Int) ≤ x := by
  unfold restI at h
  obtain ⟨i, hi, rfl⟩ := List.mem_map.1 h
  have := (List.mem_range'_1.1 (List.mem_filter.1 hi).1).1
  omega
def keptV (p : Val → Bool) (vs : List Val) (k : Nat) : List Val := (vs.take k).filter fun v => !p v
theorem keptV_len (p : Val → Bool) (vs : List Val) (k : Nat) : (keptV p vs k).length ≤ k := Nat.le_trans (List.length_filter_le _ _) (by rw [List.length_take]; omega)
theorem keptV_step {p : Val → Bool} {vs : List Val} {k : Nat} (h : k < vs.length) : keptV p vs (k + 1) = if p vs[k] then keptV p vs k else keptV p vs k ++ [vs[k]] := by
  unfold keptV
  rw [List.take_succ_eq_append_getElem h, List.filter_append]
  by_cases hp : p vs[k] = true
  · simp [hp]
  · simp [hp]
theorem keptV_all (p : Val → Bool) (vs : List Val) : keptV p vs vs.length = vs.filter fun v => !p v := by unfold keptV; rw [List.take_length]
set_option maxHeartbeats 8000000 in
set_option maxRecDepth 100000 in
theorem refNormal (t : Tr) (ls : List ByteArray) (vs : List Val) (rv bv lv vv : Value) (w : World) (hr : SlI w rv t.roots) (hv : SlBr w bv t.brs) (hf : FewBr t.brs) (hrl : t.roots.length ≤ 1000000) (hm : ∀ i (h : i < t.brs.length), t.brs[i].mark.size ≤ 9223372036854775807) (hl : SlS w lv ls) (hvv : SlV w vv vs) (hfv : vs.length ≤ 1000000) :
    Calls Tryz.prog 16 #[.agg #[rv, bv], lv, vv] w (RetVL (normR t ls vs) w) := by
  have kR := fun W (hW : Grew w W) => refRedX t ls vs rv bv lv vv W (hr.mono hW) (hv.mono hW) hf hrl hm (hl.mono hW) (hvv.mono hW) hfv
  have hnr : normR t ls vs = if ofI t ls vs = 0 then (vs.filter (fun v => !redB t vs v), 0) else ([], 1) := rfl
  have hall : redF t vs = firstI (redP t vs) vs.length := rfl
  have HP := Lib.hid (fun i (h : i < vs.length) => redP_at (t := t) h)
  rw [hnr]
  unfold redR RetNL at kR
  rw [hall, ← restI_zero] at kR
  generalize redP t vs = PP at kR HP
  generalize redB t vs = RB at HP ⊢
  have H01 := Lib.hid (ofI_two t ls vs)
  generalize ofI t ls vs = N0 at kR H01 ⊢
  have KR := Lib.hid kR
  obtain ⟨Ar0, cr0, rfl, -⟩ := hr.open_
  obtain ⟨Ab0, cb0, rfl, -⟩ := hv.open_
  obtain ⟨Av0, cv0, rfl, hlc, hc, hcr⟩ := hvv.open_
  unfold maxLen at hc
  have HR := Lib.hid hcr
  clear kR hnr hall hr hv hf hrl hm hl hvv hcr
  have GA := Lib.hid ((Grew.refl w).alloc (.cells #[.slice Ar0 t.roots.length cr0, .slice Ab0 t.brs.length cb0] 25))
  unfold RetVL
  rcases H01.out with rfl | rfl
  · have kr := KR.out
    simp only [if_true] at kr
    have KR2 := Lib.hid kr
    rw [if_pos rfl]
    clear kr KR H01
    obtain ⟨i0, hi, hz0, hz1, hz2⟩ := info_parts cinfoV
    obtain ⟨k0, hk0, hx0, hx1, hx2⟩ := info_parts cinfoI
    dsimp only
    go_enter Tryz.func16, Tryz.ntmps16
    go_wp2_with fail
    generalize w.alloc (.cells #[.slice Ar0 t.roots.length cr0, .slice Ab0 t.brs.length cb0] 25) = WA at GA ⊢
    refine (KR2.out _ GA.out).mono ?_
    rintro e w1 ⟨v1, rfl, ho, g1⟩
    obtain ⟨A1, c1, rfl⟩ := own_slice ho
    have HD0 := Lib.hid (show SlI w1 (.slice A1 (restI PP vs.length 0).length c1) (restI PP vs.length 0) from Rd.of_own ho)
    have G1 := Lib.hid (GA.out.trans g1)
    clear ho g1 KR2
    dsimp only
    go_wp2_with fail
    go_loopg [8, 10, 11] vs.length (fun gg s8 s10 s11 wr => ∃ (k : Nat) (A : Option Addr) (c : Nat), k ≤ vs.length ∧ vs.length - k ≤ gg ∧ s8 = .slice A (restI PP vs.length k).length c ∧ s11 = .int .i64 (k : Int) ∧ Aside (SlI w1 (.slice A (restI PP vs.length k).length c) (restI PP vs.length k)) ∧ Aside (wr.ownsRow w1.heap.size 29 4 s10 (keptV RB vs k).length ((keptV RB vs k).flatMap Val.cells)) ∧ Aside (Grew w1 wr))
    case atStart => exact ⟨0, A1, c1, by omega, by omega, rfl, rfl, (show Aside _ from HD0.out), (show Aside _ from World.ownsRow_nil _ _ _ _), (show Aside _ from Grew.refl _)⟩
    case round =>
      obtain ⟨k, A, c, hk, hgk, rfl, rfl, HD, OW, GW⟩ := hrel
      have HG := Lib.hid (G1.out.trans GW.out)
      by_cases hlt : k < vs.length
      · have hltz : (k : Int) < (vs.length : Int) := by omega
        have h0z : (0 : Int) ≤ (k : Int) := by omega
        have hst := restI_step (P := PP) hlt
        have hkv := keptV_step (p := RB) hlt
        rw [← HP.out k hlt] at hkv
        have hlen := keptV_len RB vs k
        obtain ⟨Ad, cd, hvd, hlc5, hc5, hr5⟩ := HD.out.open_
        injection hvd with q1 _ q3
        subst q1 q3
        unfold maxLen at hc5
        have HRD := Lib.hid hr5
        have HDR := Lib.hid HD.out
        clear HD hr5
        cases hpk : PP k with
        | true =>
          rw [hpk, if_pos rfl] at hst hkv
          have HKV := Lib.hid hkv
          generalize hT : restI PP vs.length (k + 1) = T at hst
          have hpos : 0 < (restI PP vs.length k).length := by rw [hst]; simp
          obtain ⟨bb, off, rfl, hbb, hcell⟩ := HRD.out hpos
          have c0 := hcell wr GW.out 0 hpos
          rw [Nat.add_zero] at c0
          have hhd : (restI PP vs.length k)[0] = (k : Int) := by simp only [hst, List.getElem_cons_zero]
          rw [hhd] at c0
          have hs2 := sufV_rd (k := 1) HDR.out hpos
          rw [(flat_take (f := oneI) (k := 1) (fun _ => rfl) (restI PP vs.length k) 1).2] at hs2
          have hd1 : (restI PP vs.length k).drop 1 = T := by rw [hst]; rfl
          have hl1 : (restI PP vs.length k).length - 1 = (restI PP vs.length (k + 1)).length := by rw [hst, hT]; simp
          rw [hd1, ← hT] at hs2
          unfold sufV at hs2
          rw [hl1] at hs2
          have HL1 := Lib.hid hl1
          have hposz : (0 : Int) < ((restI PP vs.length k).length : Int) := by omega
          by_cases hc1 : c = 1
          · subst hc1
            have HS2 := Lib.hid (show SlI w1 (.slice (some ⟨bb, off, none⟩) (restI PP vs.length (k + 1)).length 0) (restI PP vs.length (k + 1)) from by
              show Rd _ _ _ _
              simpa using hs2)
            clear hcell hbb hhd hs2 hd1 hst hkv hT HRD HDR hl1
            go_wp2
            go_roundg (vs.length - (k + 1))
            case measure => omega
            case rel => exact ⟨k + 1, some ⟨bb, off, none⟩, 0, by omega, by omega, by rw [show (restI PP vs.length (k + 1)).length = 0 by have := HL1.out; omega], by go_num, (show Aside _ from HS2.out), (show Aside _ by rw [HKV.out]; exact OW.out), (show Aside _ from GW.out)⟩
          · have HS2 := Lib.hid (show SlI w1 (.slice (some ⟨bb, off + 1, none⟩) (restI PP vs.length (k + 1)).length (c - 1)) (restI PP vs.length (k + 1)) from by
              rw [if_neg hc1] at hs2
              show Rd _ _ _ _
              simpa [Addr.add] using hs2)
            clear hcell hbb hhd hs2 hd1 hst hkv hT HRD HDR hl1
            go_wp2
            go_roundg (vs.length - (k + 1))
            case measure => omega
            case rel => exact ⟨k + 1, some ⟨bb, off + 1, none⟩, c - 1, by omega, by omega, by rw [HL1.out], by go_num, (show Aside _ from HS2.out), (show Aside _ by rw [HKV.out]; exact OW.out), (show Aside _ from GW.out)⟩
        | false =>
          rw [hpk, if_neg (by decide)] at hst hkv
          have HKV := Lib.hid hkv
          rw [hst] at HDR HRD ⊢
          generalize hT : restI PP vs.length (k + 1) = T at HDR HRD ⊢
          have hlo : ∀ x ∈ T, (k : Int) + 1 ≤ x := fun x hx => by rw [← hT] at hx; have := restI_lo hx; omega
          have HTT := Lib.hid hT
          obtain ⟨bv, offv, rfl, hbv, hcellv⟩ := HR.out (by omega)
          obtain ⟨y0, y1, y2, y3⟩ := hcellv wr HG.out k hlt
          generalize vs[k] = y at y0 y1 y2 y3 HKV
          obtain ⟨yu, ye, yl, yt⟩ := y
          dsimp only at y0 y1 y2 y3
          clear hcellv hbv hst hkv hT
          cases T with
          | nil =>
            clear HRD hlo
            go_wp2_with (at_builtin; refine appR rfl _ _ 27 rfl w1 29 i0 (.agg #[.int .i64 0, .int .i64 0, .string ⟨#[]⟩, .string ⟨#[]⟩]) 4 48 Tryz.underlying27 hi hz0 hz1 hz2 rfl (by omega) _ _ _ (by rfl) _ (own_keep OW.out ((Grew.refl _).alloc _)) (GW.out.alloc _) _ 1 [.int .i64 yu, .int .i64 ye, .string yl, .string yt] (by rfl) (rd_lit _ rfl _ (by simp)) rfl (by simp [Value.oneCell']) (by unfold maxLen; omega) (by omega) ?_; intro v8 w8 hown8 hg8 _)
            have OW8 : Aside _ := hown8
            have G8 : Aside _ := hg8
            clear hown8 hg8
            go_wp2
            go_roundg (vs.length - (k + 1))
            case measure => omega
            case rel =>
              refine ⟨k + 1, A, c, by omega, by omega, by rw [HTT.out]; rfl, by go_num, (show Aside _ from by rw [HTT.out]; exact HDR.out), (show Aside _ from ?_), (show Aside _ from G8.out)⟩
              rw [HKV.out, List.flatMap_append, List.length_append]
              exact OW8.out
          | cons h r =>
            obtain ⟨bb, off, rfl, hbb, hcell⟩ := HRD.out (by simp)
            have c0 := hcell wr GW.out 0 (by simp)
            rw [Nat.add_zero, List.getElem_cons_zero] at c0
            have hlo2 := hlo h (by simp)
            have hne : (h == (k : Int)) = false := beq_eq_false_iff_ne.2 (by omega)
            have hposz : (0 : Int) < (((h :: r).length : Nat) : Int) := by first | (simp; done) | (simp; omega)
            clear hcell hbb HRD hlo hlo2
            have hposn : 0 < (h :: r).length := by simp
            generalize hlr : (h :: r).length = lr at hposz hposn HDR ⊢
            have HLR := Lib.hid hlr
            clear hlr
            go_wp2_with (at_builtin; refine appR rfl _ _ 27 rfl w1 29 i0 (.agg #[.int .i64 0, .int .i64 0, .string ⟨#[]⟩, .string ⟨#[]⟩]) 4 48 Tryz.underlying27 hi hz0 hz1 hz2 rfl (by omega) _ _ _ (by rfl) _ (own_keep OW.out ((Grew.refl _).alloc _)) (GW.out.alloc _) _ 1 [.int .i64 yu, .int .i64 ye, .string yl, .string yt] (by rfl) (rd_lit _ rfl _ (by simp)) rfl (by simp [Value.oneCell']) (by unfold maxLen; omega) (by omega) ?_; intro v8 w8 hown8 hg8 _)
            have OW8 : Aside _ := hown8
            have G8 : Aside _ := hg8
            clear hown8 hg8
            go_wp2
            go_roundg (vs.length - (k + 1))
            case measure => omega
            case rel =>
              refine ⟨k + 1, some ⟨bb, off, none⟩, c, by omega, by omega, by rw [HTT.out, HLR.out], by go_num, (show Aside _ from by rw [HTT.out, HLR.out]; exact HDR.out), (show Aside _ from ?_), (show Aside _ from G8.out)⟩
              rw [HKV.out, List.flatMap_append, List.length_append]
              exact OW8.out
      · have hltz : ¬ (k : Int) < (vs.length : Int) := by omega
        obtain rfl : k = vs.length := by omega
        have OWE := Lib.hid OW.out
        rw [keptV_all] at OWE
        clear OW HD
        go_wp2
        go_ret2
        exact ⟨_, rfl, own_base OWE.out G1.out.size, HG.out⟩
  · have kr := KR.out
    simp only [show ¬ (1 : Int) = 0 by decide, if_false] at kr
    have KR2 := Lib.hid kr
    rw [if_neg (by decide)]
    clear kr KR H01
    dsimp only
    go_enter Tryz.func16, Tryz.ntmps16
    go_wp2_with fail
    generalize w.alloc (.cells #[.slice Ar0 t.roots.length cr0, .slice Ab0 t.brs.length cb0] 25) = WA at GA ⊢
    refine (KR2.out _ GA.out).mono ?_
    rintro e w1 ⟨v1, rfl, ho, g1⟩
    obtain ⟨A1, c1, rfl⟩ := own_slice ho
    have G1 := Lib.hid (GA.out.trans g1)
    clear ho g1 KR2
    dsimp only
    go_wp2_with fail
    go_ret2
    exact ⟨_, rfl, World.ownsRow_nil _ _ _ _, G1.out⟩
end Go.Proofs.YtjaknioojpgkiaaGreatDoor

/- The reference's Clear of layer 29, walked. The condition: the lists are short. -/
namespace Go.Proofs.YtjaknioojpgkiaaGreatDoor
open Go.RowKit

def offK (v x : Val) : Bool := x.unit != v.unit || (x.elem != v.elem || (x.lang.toList != v.lang.toList))
theorem offK_is (v x : Val) : (lessV x v || lessV v x) = offK v x := by
  unfold offK
  rcases ltV_tri x v with h | h | h
  · rw [lessV_yes h, Bool.true_or]
    symm
    cases hq : (x.unit != v.unit || (x.elem != v.elem || (x.lang.toList != v.lang.toList))) with
    | true => rfl
    | false =>
      exfalso
      simp at hq
      exact ltV_irr ⟨hq.1, hq.2.1, bytes_inj hq.2.2⟩ h
  · rw [lessV_no (ltV_irr h), lessV_no (ltV_irr h.symm)]
    obtain ⟨h1, h2, h3⟩ := h
    simp [h1, h2, h3]
  · rw [lessV_yes h, Bool.or_true]
    symm
    cases hq : (x.unit != v.unit || (x.elem != v.elem || (x.lang.toList != v.lang.toList))) with
    | true => rfl
    | false =>
      exfalso
      simp at hq
      exact ltV_irr ⟨hq.1.symm, hq.2.1.symm, (bytes_inj hq.2.2).symm⟩ h
theorem dropV_off (v : Val) (vs : List Val) : dropV v vs = vs.filter fun x => !(!offK v x) := by
  unfold dropV
  congr 1
  funext x
  rw [offK_is, Bool.not_not]
set_option maxHeartbeats 8000000 in
set_option maxRecDepth 100000 in
theorem refClear (t : Tr) (ls : List ByteArray) (vs : List Val) (u n : Int) (lang : ByteArray) (rv bv lv vv : Value) (w : World) (hr : SlI w rv t.roots) (hv : SlBr w bv t.brs) (hf : FewBr t.brs) (hrl : t.roots.length ≤ 1000000) (hm : ∀ i (h : i < t.brs.length), t.brs[i].mark.size ≤ 9223372036854775807) (hl : SlS w lv ls) (hvv : SlV w vv vs) (hfv : vs.length ≤ 1000000) :
    Calls Tryz.prog 20 #[.agg #[rv, bv], lv, vv, .int .i64 u, .int .i64 n, .string lang] w (RetVL (clearR t ls vs ⟨u, n, lang, ⟨#[]⟩⟩) w) := by
  have kR := fun W (hW : Grew w W) => refRightI t ls vs rv bv lv vv W (hr.mono hW) (hv.mono hW) hf hrl hm (hl.mono hW) (hvv.mono hW)
  have kN := fun uv W (hW : Grew w W) (hu : SlV W uv (dropV ⟨u, n, lang, ⟨#[]⟩⟩ vs)) (hn : (dropV ⟨u, n, lang, ⟨#[]⟩⟩ vs).length ≤ 1000000) => refNormal t ls (dropV ⟨u, n, lang, ⟨#[]⟩⟩ vs) rv bv lv uv W (hr.mono hW) (hv.mono hW) hf hrl hm (hl.mono hW) hu hn
  have HNR := Lib.hid (fun (h : ofI t ls vs = 0) => norm_drop h ⟨u, n, lang, ⟨#[]⟩⟩)
  have H01 := Lib.hid (ofI_two t ls vs)
  have HDV := Lib.hid (dropV_off ⟨u, n, lang, ⟨#[]⟩⟩ vs)
  have HDL := Lib.hid (show (dropV ⟨u, n, lang, ⟨#[]⟩⟩ vs).length ≤ 1000000 from Nat.le_trans (List.length_filter_le _ _) hfv)
  generalize hRES : clearR t ls vs ⟨u, n, lang, ⟨#[]⟩⟩ = RES
  unfold clearR at hRES
  generalize ofI t ls vs = N0 at kR HNR H01 hRES
  generalize normF t (dropV ⟨u, n, lang, ⟨#[]⟩⟩ vs) = NF at HNR hRES
  generalize normR t ls (dropV ⟨u, n, lang, ⟨#[]⟩⟩ vs) = NR at kN HNR
  generalize dropV ⟨u, n, lang, ⟨#[]⟩⟩ vs = DV at kN HNR HDV HDL hRES
  unfold RetVL at kN
  have HRES := Lib.hid hRES
  have KR := Lib.hid kR
  have KN := Lib.hid kN
  obtain ⟨Ar0, cr0, rfl, -⟩ := hr.open_
  obtain ⟨Ab0, cb0, rfl, -⟩ := hv.open_
  obtain ⟨Av0, cv0, rfl, hlc, hc, hcr⟩ := hvv.open_
  unfold maxLen at hc
  have HR := Lib.hid hcr
  clear kR kN hRES hr hv hf hrl hm hl hvv hcr
  have HB := Lib.hid (show ∀ W, Grew (w.alloc (.cells #[.slice Ar0 t.roots.length cr0, .slice Ab0 t.brs.length cb0] 25)) W → W.heap[w.heap.size]? = some (.cells #[.slice Ar0 t.roots.length cr0, .slice Ab0 t.brs.length cb0] 25 (0, 0)) from fun W g => heap_keepI g (heap_newI w _))
  have GA := Lib.hid ((Grew.refl w).alloc (.cells #[.slice Ar0 t.roots.length cr0, .slice Ab0 t.brs.length cb0] 25))
  unfold RetVL
  go_enter Tryz.func20, Tryz.ntmps20
  go_wp2_with fail
  generalize w.alloc (.cells #[.slice Ar0 t.roots.length cr0, .slice Ab0 t.brs.length cb0] 25) = WA at GA HB ⊢
  refine (KR.out _ GA.out).mono ?_
  rintro e w1 ⟨rfl, g1⟩
  have G1 := Lib.hid g1
  have HG1 := Lib.hid (GA.out.trans g1)
  clear g1 KR
  dsimp only
  rcases H01.out with rfl | rfl
  · obtain ⟨i0, hi, hz0, hz1, hz2⟩ := info_parts cinfoV
    have HN2 := Lib.hid (HNR.out rfl)
    clear HNR H01
    go_wp2_with fail
    go_loopg [14, 15] vs.length (fun gg s14 s15 wr => ∃ k : Nat, k ≤ vs.length ∧ vs.length - k ≤ gg ∧ s15 = .int .i64 (k : Int) ∧ Aside (wr.ownsRow w1.heap.size 29 4 s14 (keptV (fun x => !offK ⟨u, n, lang, ⟨#[]⟩⟩ x) vs k).length ((keptV (fun x => !offK ⟨u, n, lang, ⟨#[]⟩⟩ x) vs k).flatMap Val.cells)) ∧ Aside (Grew w1 wr))
    case atStart => exact ⟨0, by omega, by omega, rfl, (show Aside _ from World.ownsRow_nil _ _ _ _), (show Aside _ from Grew.refl _)⟩
    case round =>
      obtain ⟨k, hk, hgk, rfl, OW, GW⟩ := hrel
      have HG := Lib.hid (HG1.out.trans GW.out)
      by_cases hlt : k < vs.length
      · have hltz : (k : Int) < (vs.length : Int) := by omega
        have h0z : (0 : Int) ≤ (k : Int) := by omega
        obtain ⟨bv, offv, rfl, hbv, hcellv⟩ := HR.out (by omega)
        obtain ⟨y0, y1, y2, y3⟩ := hcellv wr HG.out k hlt
        have hkv := keptV_step (p := fun x => !offK ⟨u, n, lang, ⟨#[]⟩⟩ x) hlt
        have hlen := keptV_len (fun x => !offK ⟨u, n, lang, ⟨#[]⟩⟩ x) vs k
        generalize vs[k] = y at y0 y1 y2 y3 hkv
        obtain ⟨yu, ye, yl, yt⟩ := y
        dsimp only at y0 y1 y2 y3
        have HKV := Lib.hid hkv
        have gz := (Grew.refl wr).alloc (.cells #[.int .i64 yu, .int .i64 ye, .string yl, .string yt] 29)
        have OW2 := Lib.hid (own_keep OW.out gz)
        have GW2 := Lib.hid (GW.out.trans gz)
        obtain ⟨⟨f0, f1, f2, f3⟩, -⟩ := four_cells (heap_newI wr (.cells #[.int .i64 yu, .int .i64 ye, .string yl, .string yt] 29))
        clear hcellv hbv hkv gz OW
        cases h1 : (yu != u) with
        | true =>
          have HK := Lib.hid (show keptV (fun x => !offK ⟨u, n, lang, ⟨#[]⟩⟩ x) vs (k + 1) = keptV (fun x => !offK ⟨u, n, lang, ⟨#[]⟩⟩ x) vs k ++ [⟨yu, ye, yl, yt⟩] from by have := HKV.out; simpa [offK, h1] using this)
          clear HKV
          go_wp2_with (at_builtin; refine appR rfl _ _ 27 rfl w1 29 i0 (.agg #[.int .i64 0, .int .i64 0, .string ⟨#[]⟩, .string ⟨#[]⟩]) 4 48 Tryz.underlying27 hi hz0 hz1 hz2 rfl (by omega) _ _ _ (by rfl) _ (own_keep OW2.out ((Grew.refl _).alloc _)) (GW2.out.alloc _) _ 1 [.int .i64 yu, .int .i64 ye, .string yl, .string yt] (by rfl) (rd_lit _ rfl _ (by simp)) rfl (by simp [Value.oneCell']) (by unfold maxLen; omega) (by omega) ?_; intro v8 w8 hown8 hg8 _)
          have OW8 : Aside _ := hown8
          have G8 : Aside _ := hg8
          clear hown8 hg8
          go_wp2
          go_roundg (vs.length - (k + 1))
          case measure => omega
          case rel =>
            refine ⟨k + 1, by omega, by omega, by go_num, (show Aside _ from ?_), (show Aside _ from G8.out)⟩
            rw [HK.out, List.flatMap_append, List.length_append]
            exact OW8.out
        | false =>
          cases h2 : (ye != n) with
          | true =>
            have HK := Lib.hid (show keptV (fun x => !offK ⟨u, n, lang, ⟨#[]⟩⟩ x) vs (k + 1) = keptV (fun x => !offK ⟨u, n, lang, ⟨#[]⟩⟩ x) vs k ++ [⟨yu, ye, yl, yt⟩] from by have := HKV.out; simpa [offK, h1, h2] using this)
            clear HKV
            go_wp2_with (at_builtin; refine appR rfl _ _ 27 rfl w1 29 i0 (.agg #[.int .i64 0, .int .i64 0, .string ⟨#[]⟩, .string ⟨#[]⟩]) 4 48 Tryz.underlying27 hi hz0 hz1 hz2 rfl (by omega) _ _ _ (by rfl) _ (own_keep OW2.out ((Grew.refl _).alloc _)) (GW2.out.alloc _) _ 1 [.int .i64 yu, .int .i64 ye, .string yl, .string yt] (by rfl) (rd_lit _ rfl _ (by simp)) rfl (by simp [Value.oneCell']) (by unfold maxLen; omega) (by omega) ?_; intro v8 w8 hown8 hg8 _)
            have OW8 : Aside _ := hown8
            have G8 : Aside _ := hg8
            clear hown8 hg8
            go_wp2
            go_roundg (vs.length - (k + 1))
            case measure => omega
            case rel =>
              refine ⟨k + 1, by omega, by omega, by go_num, (show Aside _ from ?_), (show Aside _ from G8.out)⟩
              rw [HK.out, List.flatMap_append, List.length_append]
              exact OW8.out
          | false =>
            cases h3 : (yl.toList == lang.toList) with
            | false =>
              have HK := Lib.hid (show keptV (fun x => !offK ⟨u, n, lang, ⟨#[]⟩⟩ x) vs (k + 1) = keptV (fun x => !offK ⟨u, n, lang, ⟨#[]⟩⟩ x) vs k ++ [⟨yu, ye, yl, yt⟩] from by have := HKV.out; simpa [offK, bne, h1, h2, h3] using this)
              clear HKV
              go_wp2_with (at_builtin; refine appR rfl _ _ 27 rfl w1 29 i0 (.agg #[.int .i64 0, .int .i64 0, .string ⟨#[]⟩, .string ⟨#[]⟩]) 4 48 Tryz.underlying27 hi hz0 hz1 hz2 rfl (by omega) _ _ _ (by rfl) _ (own_keep OW2.out ((Grew.refl _).alloc _)) (GW2.out.alloc _) _ 1 [.int .i64 yu, .int .i64 ye, .string yl, .string yt] (by rfl) (rd_lit _ rfl _ (by simp)) rfl (by simp [Value.oneCell']) (by unfold maxLen; omega) (by omega) ?_; intro v8 w8 hown8 hg8 _)
              have OW8 : Aside _ := hown8
              have G8 : Aside _ := hg8
              clear hown8 hg8
              go_wp2
              go_roundg (vs.length - (k + 1))
              case measure => omega
              case rel =>
                refine ⟨k + 1, by omega, by omega, by go_num, (show Aside _ from ?_), (show Aside _ from G8.out)⟩
                rw [HK.out, List.flatMap_append, List.length_append]
                exact OW8.out
            | true =>
              have hpf : offK ⟨u, n, lang, ⟨#[]⟩⟩ ⟨yu, ye, yl, yt⟩ = false := by unfold offK; rw [h1, h2]; simp [bne, h3]
              have HK := Lib.hid (show keptV (fun x => !offK ⟨u, n, lang, ⟨#[]⟩⟩ x) vs (k + 1) = keptV (fun x => !offK ⟨u, n, lang, ⟨#[]⟩⟩ x) vs k from by have := HKV.out; rw [hpf] at this; simpa only [Bool.not_false, if_true] using this)
              clear HKV
              go_wp2
              go_roundg (vs.length - (k + 1))
              case measure => omega
              case rel => exact ⟨k + 1, by omega, by omega, by go_num, (show Aside _ by rw [HK.out]; exact OW2.out), (show Aside _ from GW2.out)⟩
      · have hltz : ¬ (k : Int) < (vs.length : Int) := by omega
        obtain rfl : k = vs.length := by omega
        have OWE := Lib.hid OW.out
        rw [keptV_all, ← HDV.out] at OWE
        clear OW
        obtain ⟨t0, t1⟩ := two_cells (HB.out _ (G1.out.trans GW.out))
        obtain ⟨Ao, co, rfl⟩ := own_slice OWE.out
        by_cases hle : DV.length = vs.length
        · have hlb : ((DV.length : Int) == (vs.length : Int)) = true := by rw [hle]; simp
          obtain rfl : RES = ([], 7) := by have := HRES.out; rw [if_neg (fun h => h rfl), if_pos hle] at this; exact this.symm
          clear HRES HN2 KN hle
          go_wp2
          go_ret2
          exact ⟨_, rfl, World.ownsRow_nil _ _ _ _, HG.out⟩
        · have hlb : ((DV.length : Int) == (vs.length : Int)) = false := beq_eq_false_iff_ne.2 (by omega)
          obtain rfl : NR = (NF, 0) := HN2.out
          obtain rfl : RES = (NF, 0) := by have := HRES.out; rw [if_neg (fun h => h rfl), if_neg hle] at this; exact this.symm
          clear HRES HN2 hle
          go_wp2_with fail
          refine (KN.out _ _ HG.out (Rd.of_own OWE.out) HDL.out).mono ?_
          rintro e w8 ⟨v8, rfl, ho8, g8⟩
          obtain ⟨A8, c8, rfl⟩ := own_slice ho8
          have HO8 := Lib.hid (own_base ho8 HG.out.size)
          have HG8 := Lib.hid (HG.out.trans g8)
          clear ho8 g8 KN
          dsimp only
          go_wp2
          go_ret2
          exact ⟨_, rfl, HO8.out, HG8.out⟩
  · obtain rfl : RES = ([], 1) := by have := HRES.out; rw [if_pos (by decide)] at this; exact this.symm
    clear HRES HNR H01 KN
    go_wp2
    go_ret2
    exact ⟨_, rfl, World.ownsRow_nil _ _ _ _, HG1.out⟩
end Go.Proofs.YtjaknioojpgkiaaGreatDoor
