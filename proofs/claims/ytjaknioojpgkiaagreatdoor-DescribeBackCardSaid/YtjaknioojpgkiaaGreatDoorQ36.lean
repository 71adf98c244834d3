/- Lemmas on what the functions of the program and of the library compute: IdV, PlainSe, PlainBa, PlainUn, Ldm, DelV, N5, FrameR, OpenR. The conditions stand at each. -/
import Derived.Test.YtjaknioojpgkiaaGreatDoorQ13
import Derived.Test.YtjaknioojpgkiaaGreatDoorQ20
import Derived.Test.YtjaknioojpgkiaaGreatDoorQ34
import Derived.Test.YtjaknioojpgkiaaGreatDoorQ16
import Derived.Test.YtjaknioojpgkiaaGreatDoorQ26
import Derived.Test.YtjaknioojpgkiaaGreatDoorQ35
import Derived.Test.YtjaknioojpgkiaaGreatDoorQ15
import Derived.Test.YtjaknioojpgkiaaGreatDoorQ8
import Derived.Test.YtjaknioojpgkiaaGreatDoorQ33
import Derived.Test.YtjaknioojpgkiaaGreatDoorQ2
import Derived.Test.YtjaknioojpgkiaaGreatDoorQ4
import Derived.Test.YtjaknioojpgkiaaGreatDoorQ3
import Derived.Test.YtjaknioojpgkiaaGreatDoorQ5
import Derived.Deep.RegionHeld3
import Derived.Deep.DeepCutAuto
import Derived.Test.YtjaknioojpgkiaaGreatDoorCards
import Derived.Test.YtjaknioojpgkiaaGreatDoorTie
import Derived.Test.YtjaknioojpgkiaaGreatDoorQ1
import Derived.WalkKit
import Derived.ProofKit
import Derived.OpenShut
import Derived.Carry
import Derived.ChangeMaps5
import Derived.SliceStrings
import Derived.Deep.Slices
import Derived.Deep.DeepHandedRow
import Derived.Lib.LaidTab
import Derived.LaidSub
import Derived.Shelf.Vars
/- slices.Index and slices.Contains at values. No condition. -/
namespace Go.Proofs.YtjaknioojpgkiaaGreatDoor
open Go.RowKit

set_option maxHeartbeats 2000000 in
theorem indexV (l : List Val) (x : Val) (v : Value) (w : World) (hv : SlV w v l) :
    Calls Tryz.prog 86 #[v, x.agg] w fun e w' => e = .returned (.int .i64 (idxP (fun y => decide (x = y)) l)) ∧ Grew w w' := by
  obtain ⟨A, c, rfl, hlc, hc, hr⟩ := hv.open_
  unfold maxLen at hc
  have HR := Lib.hid hr
  generalize hp : (fun y : Val => decide (x = y)) = p
  have HP := Lib.hid hp
  obtain ⟨xu, xe, xl, xt⟩ := x
  unfold Val.agg
  dsimp only
  have GA := Lib.hid ((Grew.refl w).alloc (.cells #[.int .i64 xu, .int .i64 xe, .string xl, .string xt] 29))
  have HX := Lib.hid (heap_newI w (.cells #[.int .i64 xu, .int .i64 xe, .string xl, .string xt] 29))
  clear hr hv hp
  go_enter Tryz.func86, Tryz.ntmps86
  go_wp2_with fail
  generalize w.alloc (.cells #[.int .i64 xu, .int .i64 xe, .string xl, .string xt] 29) = WA at GA HX ⊢
  go_loopg [5, 8] l.length (fun gg _ s8 wr => ∃ kk : Nat, kk ≤ l.length ∧ l.length - kk ≤ gg ∧ s8 = .int .i64 kk ∧ Aside (Grew WA wr) ∧ Aside (∀ i (hi : i < l.length), i < kk → p l[i] = false))
  case atStart => exact ⟨0, Nat.zero_le _, by omega, rfl, (show Aside _ from Grew.refl _), (show Aside _ from fun i hi h => absurd h (Nat.not_lt_zero _))⟩
  case round =>
    obtain ⟨kk, hkk, hg, rfl, BW, M⟩ := hrel
    by_cases hlt : kk < l.length
    · have hltz : (kk : Int) < (l.length : Int) := by omega
      have h0z : (0 : Int) ≤ (kk : Int) := by omega
      obtain ⟨b, off, rfl, hb, hcell⟩ := HR.out (by omega)
      obtain ⟨c0, c1, c2, c3⟩ := hcell wr (GA.out.trans BW.out) kk hlt
      obtain ⟨⟨x0, x1, x2, x3⟩, -⟩ := four_cells (heap_keepI BW.out HX.out)
      have hq0 : p l[kk] = decide ((⟨xu, xe, xl, xt⟩ : Val) = l[kk]) := by rw [← HP.out]
      clear hcell
      generalize hy : l[kk] = y at c0 c1 c2 c3 hq0
      have B : Aside (l[kk] = y) := hy
      clear hy
      obtain ⟨yu, ye, yl, yt⟩ := y
      dsimp only at c0 c1 c2 c3
      generalize hd : decide ((⟨xu, xe, xl, xt⟩ : Val) = ⟨yu, ye, yl, yt⟩) = d at hq0
      have Hq : Aside (p ⟨yu, ye, yl, yt⟩ = d) := hq0
      clear hq0
      cases d with
      | true =>
        have he := of_decide_eq_true hd
        simp only [Val.mk.injEq] at he
        obtain ⟨rfl, rfl, rfl, rfl⟩ := he
        clear hd
        go_wp2
        go_quiet (fail)
        go_wp2
        go_ret
        refine ⟨?_, GA.out.trans (BW.out.drewN _)⟩
        rw [idxP_hit p l kk hlt (by rw [B.out]; exact Hq.out) M.out]
        rfl
      | false =>
        have hq1 : (decide (xu = yu) && (decide (xe = ye) && (decide (xl = yl) && decide (xt = yt)))) = false := by
          have h := of_decide_eq_false hd
          simp only [Val.mk.injEq] at h
          by_cases g0 : xu = yu <;> by_cases g1 : xe = ye <;> by_cases g2 : xl = yl <;> by_cases g3 : xt = yt <;> simp_all
        clear hd
        go_wp2
        go_quiet (fail)
        go_wp2
        go_roundg (l.length - (kk + 1))
        case measure => omega
        case rel =>
          refine ⟨kk + 1, by omega, by omega, by go_num, (show Aside _ from BW.out.drewN _), (show Aside _ from fun i hi h => ?_)⟩
          by_cases e : i = kk
          · subst e
            rw [B.out]; exact Hq.out
          · exact M.out i hi (by omega)
    · have hltz : ¬ (kk : Int) < (l.length : Int) := by omega
      go_wp2
      go_ret
      refine ⟨?_, GA.out.trans BW.out⟩
      rw [idxP_miss p l (fun i hi => M.out i hi (by omega))]
      rfl
theorem containsV (l : List Val) (x : Val) (v : Value) (w : World) (hv : SlV w v l) :
    Calls Tryz.prog 28 #[v, x.agg] w fun e w' => e = .returned (.bool (l.any fun y => decide (x = y))) ∧ Grew w w' := by
  have hi := fun W (hW : Grew w W) => indexV l x v W (hv.mono hW)
  have hd := idxP_any (fun y => decide (x = y)) l
  generalize idxP (fun y => decide (x = y)) l = i at hi hd
  obtain ⟨xu, xe, xl, xt⟩ := x
  unfold Val.agg at hi ⊢
  dsimp only at hi ⊢
  have HI := Lib.hid hi
  have Hd := Lib.hid hd
  clear hv hd hi
  go_enter Tryz.func28, Tryz.ntmps28
  go_wp2_with fail
  refine (HI.out _ ((Grew.refl w).alloc _)).mono ?_
  rintro e w1 ⟨rfl, g1⟩
  have G1 := Lib.hid (((Grew.refl w).alloc _).trans g1)
  clear g1 HI
  dsimp only
  go_wp2
  go_ret
  exact ⟨ret_bool Hd.out, G1.out⟩
end Go.Proofs.YtjaknioojpgkiaaGreatDoor

/- Behind setting a value: the unit has it, the values are normal, and only the unit and those below it read differently. No condition. -/
namespace Go.Proofs.YtjaknioojpgkiaaGreatDoor
open Go.RowKit

theorem inL_mem {ls : List ByteArray} {s : ByteArray} (h : inL ls s = true) : s ∈ ls := by
  unfold inL at h
  obtain ⟨y, hy, e⟩ := List.any_eq_true.1 h
  rw [bytes_inj (beq_iff_eq.1 e)]
  exact hy
theorem top_some {l : List Br} {id : Int} {b : Br} (h : brFind l id = some b) : topR l id = 0 := by
  unfold topR
  by_cases h0 : id = 0
  · rw [if_pos h0]
  · rw [if_neg h0]
    unfold knownF
    simp [h]

/-- A unit on the way upwards has the first one below it. -/
theorem way_under {t : Tr} (hT : RightT t) (n : Int) : ∀ (k : Nat) (x : Int), (wayL t.brs x).length ≤ k → n ∈ wayL t.brs x → UnderT t.brs n x := by
  intro k
  induction k with
  | zero =>
    intro x hk hn
    have hw : wayL t.brs x = [] := List.eq_nil_of_length_eq_zero (by omega)
    rw [hw] at hn
    cases hn
  | succ k ih =>
    intro x hk hn
    cases hx : brFind t.brs x with
    | none => rw [wayL_none hx] at hn; cases hn
    | some b =>
      have hs := wayL_step hT hx
      obtain ⟨hb, hid⟩ := find_in hx
      rw [hs] at hn hk
      rcases List.mem_cons.1 hn with rfl | hn
      · exact UnderT.self
      · have hp : b.parent ≠ 0 := fun e => by
          rw [e, wayL_zero hT] at hn
          cases hn
        rw [← hid]
        exact UnderT.step hb hp (ih b.parent (by simp only [List.length_cons] at hk; omega) hn)
theorem under_below {t : Tr} (hT : RightT t) {n x : Int} {b : Br} (hb : brFind t.brs n = some b) (h : n ∈ wayL t.brs x) : x ∈ belowT t n := by
  obtain ⟨hin, hid⟩ := find_in hb
  have := (mem_below (right_sound hT) hin x).2 (by rw [hid]; exact way_under hT n _ x (Nat.le_refl _) h)
  rwa [hid] at this
/-- Away from its unit a value changes nothing. -/
theorem put_away {t : Tr} {ls : List ByteArray} {vs : List Val} {v : Val} (hR : RightV ls vs) (hP : RightV ls (putV v vs)) {x : Int} (h : v.unit ∉ wayL t.brs x) (n : Int) (lang : ByteArray) : foundF t.brs (putV v vs) x n lang = foundF t.brs vs x n lang := by
  unfold foundF
  refine along_congr fun y hy => ?_
  rw [put_get hR hP, if_neg]
  rintro ⟨rfl, -, -⟩
  exact h hy
theorem put_eff {t : Tr} {ls : List ByteArray} {vs : List Val} {v : Val} (hR : RightV ls vs) (hP : RightV ls (putV v vs)) {x : Int} (h : v.unit ∉ wayL t.brs x) (n : Int) (wt : ByteArray) : effF t.brs ls (putV v vs) x n wt = effF t.brs ls vs x n wt := by
  unfold effF
  have : (fun lg => foundF t.brs (putV v vs) x n lg) = fun lg => foundF t.brs vs x n lg := funext fun lg => put_away hR hP h n lg
  rw [this]
theorem par_way {t : Tr} (hT : RightT t) {u : Int} {b : Br} (hb : brFind t.brs u = some b) : u ∉ wayL t.brs b.parent := by
  have := wayL_nodup hT u
  rw [wayL_step hT hb] at this
  exact (List.nodup_cons.1 this).1
/-- What Set returned is the normal form of the values with the new one, which is right. -/
theorem set_is {t : Tr} {ls : List ByteArray} {vs : List Val} {v : Val} (h : (setR t ls vs v).2 = 0) : RightT t ∧ RightV ls vs ∧ RightV ls (putV v vs) ∧ valE t ls vs v = 0 ∧ (setR t ls vs v).1 = normF t (putV v vs) := by
  unfold setR at h ⊢
  by_cases h1 : ofI t ls vs = 0
  · rw [if_neg (fun k => k h1)] at h ⊢
    by_cases h2 : valE t ls vs v = 0
    · rw [if_neg (fun k => k h2)] at h ⊢
      by_cases h3 : 1024 < (putV v vs).length
      · rw [if_pos h3] at h; cases h
      · rw [if_neg h3] at h ⊢
        obtain ⟨hT, hR⟩ := ofI_zero.1 h1
        exact ⟨hT, hR, put_right hR (valE_good hT h2).1 (by omega), h2, rfl⟩
    · rw [if_pos h2] at h
      exact absurd h h2
  · rw [if_pos h1] at h; cases h
/-- The value that was set repeats nothing. -/
theorem set_stays {t : Tr} {ls : List ByteArray} {vs : List Val} {v : Val} (hT : RightT t) (hR : RightV ls vs) (hP : RightV ls (putV v vs)) (h : valE t ls vs v = 0) : redB t (putV v vs) v = false := by
  obtain ⟨-, b, hb⟩ := valE_good hT h
  rw [redB_at hb, put_away hR hP (par_way hT hb)]
  unfold valE at h
  rw [hb] at h
  dsimp only at h
  by_cases h1 : isEl v.elem = false
  · rw [if_pos h1] at h; cases h
  rw [if_neg h1] at h
  by_cases h2 : allowedF v.elem b.level = false
  · rw [if_pos h2] at h; cases h
  rw [if_neg h2] at h
  by_cases h3 : inL ls v.lang = false
  · rw [if_pos h3] at h; cases h
  rw [if_neg h3] at h
  by_cases h4 : isTextF v.text.data.toList = false
  · rw [if_pos h4] at h; cases h
  rw [if_neg h4] at h
  by_cases h5 : b.parent = 0 ∨ (kindOf v.elem).inh = false
  · rcases h5 with h5 | h5
    · rw [h5, found_zero hT]
      simp [sameT]
    · rw [h5]; rfl
  · rw [if_neg h5] at h
    by_cases h6 : sameT v.text (foundF t.brs vs b.parent v.elem v.lang) = true
    · rw [if_pos h6] at h; cases h
    · rw [Bool.not_eq_true] at h6
      rw [h6, Bool.and_false]
theorem put_self (v : Val) (vs : List Val) : v ∈ putV v vs := by unfold putV; simp
theorem set_found {t : Tr} {ls : List ByteArray} {vs : List Val} {v : Val} (h : (setR t ls vs v).2 = 0) : foundF t.brs (setR t ls vs v).1 v.unit v.elem v.lang = some v := by
  obtain ⟨hT, hR, hP, hv, he⟩ := set_is h
  obtain ⟨-, b, hb⟩ := valE_good hT hv
  have hg : getF (normF t (putV v vs)) v.unit v.elem v.lang = some v.text := by
    unfold normF
    rw [get_filter hP _ (put_self v vs), set_stays hT hR hP hv]
    rfl
  rw [he, found_step hT hb]
  have : ownV (normF t (putV v vs)) v.elem v.lang v.unit = some v := by unfold ownV; rw [hg]; rfl
  rw [this]
/-- Behind Set: the value, the normal form, and who reads differently. -/
theorem sets_plain {t : Tr} {ls : List ByteArray} {vs : List Val} {v : Val} (h : (setR t ls vs v).2 = 0) (wt : ByteArray) :
    ofI t ls (setR t ls vs v).1 = 0 ∧ foundR t ls (setR t ls vs v).1 v.unit v.elem v.lang = (some v, 0) ∧ redR t ls (setR t ls vs v).1 = ([], 0) ∧ (belowR t v.unit).2 = 0 ∧
      ((difR t t ls vs (setR t ls vs v).1 wt).2 = 0 ∨ (difR t t ls vs (setR t ls vs v).1 wt).2 = 3) ∧ ∀ x ∈ (difR t t ls vs (setR t ls vs v).1 wt).1, x ∈ (belowR t v.unit).1 := by
  obtain ⟨hT, hR, hP, hv, he⟩ := set_is h
  obtain ⟨hgd, b, hb⟩ := valE_good hT hv
  have hf := set_found h
  have ho : ofI t ls (setR t ls vs v).1 = 0 := ofI_zero.2 ⟨hT, by rw [he]; exact normF_right hP⟩
  have hov : ofI t ls vs = 0 := ofI_zero.2 ⟨hT, hR⟩
  have hlang : isLangF v.lang.data.toList = true := lang_of_langs hR.1 (inL_mem hgd.2.2.2.1)
  have hask : askI t ls (setR t ls vs v).1 v.unit v.elem v.lang = 0 := askI_zero.2 ⟨ofI_zero.1 ho, ⟨b, hb⟩, hgd.2.2.1, hlang⟩
  have htop : topR t.brs v.unit = 0 := top_some hb
  have hb0 : belowR t v.unit = (belowT t v.unit, 0) := by
    unfold belowR
    rw [if_pos hT, if_pos htop]
  refine ⟨ho, ?_, ?_, by rw [hb0], ?_⟩
  · unfold foundR
    rw [if_pos hask, hf]
  · unfold redR
    rw [if_pos ho, he, norm_redF hT hP]
  · rw [hb0]
    unfold difR
    rw [hov, ho, or3]
    rcases lanI_two wt with k | k
    · rw [k, if_pos rfl]
      refine ⟨.inl rfl, fun x hx => ?_⟩
      obtain ⟨h1, h2⟩ := List.mem_filter.1 hx
      by_cases hw : v.unit ∈ wayL t.brs x
      · exact under_below hT hb hw
      · rw [dif_no (all_eff hov ho fun n => by rw [he, norm_eff hT hP, put_eff hR hP hw])] at h2
        cases h2
    · rw [k, if_neg (by decide)]
      exact ⟨.inr rfl, fun x hx => by cases hx⟩
end Go.Proofs.YtjaknioojpgkiaaGreatDoor

/- Clearing what was set, where there was no value before, plainly. No condition. -/
namespace Go.Proofs.YtjaknioojpgkiaaGreatDoor
open Go.RowKit

/-- The text that a unit has of an element in a language. -/
def txtF (t : Tr) (vs : List Val) (u n : Int) (lang : ByteArray) : Option ByteArray := (foundF t.brs vs u n lang).map (·.text)
theorem txt_none {t : Tr} {u : Int} (h : brFind t.brs u = none) (vs : List Val) (n : Int) (lang : ByteArray) : txtF t vs u n lang = none := by
  unfold txtF foundF
  rw [wayL_none h]
  rfl
theorem txt_step {t : Tr} (hT : RightT t) {u : Int} {b : Br} (h : brFind t.brs u = some b) (vs : List Val) (n : Int) (lang : ByteArray) :
    txtF t vs u n lang = match getF vs u n lang with | some s => some s | none => if (kindOf n).inh = true then txtF t vs b.parent n lang else none := by
  unfold txtF
  rw [found_step hT h]
  unfold ownV
  cases getF vs u n lang with
  | some s => rfl
  | none =>
    dsimp only [Option.map_none]
    split <;> rfl
theorem sameT_txt {x : ByteArray} {o : Option Val} : sameT x o = true ↔ o.map (·.text) = some x := by
  cases o with
  | none => simp [sameT]
  | some v =>
    unfold sameT
    constructor
    · intro h
      have := bytes_inj (beq_iff_eq.1 (show (v.text.toList == x.toList) = true from h))
      simp [this]
    · intro h
      have : v.text = x := by simpa using h
      show (v.text.toList == x.toList) = true
      rw [this]
      simp
/-- What a unit has of its own in the normal form. -/
theorem get_norm {t : Tr} {ls : List ByteArray} {vs : List Val} (hR : RightV ls vs) {u n : Int} {lang : ByteArray} {b : Br} (hb : brFind t.brs u = some b) :
    getF (normF t vs) u n lang = match getF vs u n lang with | some s => if (kindOf n).inh = true ∧ txtF t vs b.parent n lang = some s then none else some s | none => none := by
  cases hg : getF vs u n lang with
  | none => exact get_none_filter _ hg
  | some s =>
    have h := get_filter hR (fun v => !redB t vs v) (get_there hg)
    dsimp only at h ⊢
    show getF (vs.filter fun v => !redB t vs v) u n lang = _
    rw [h, redB_at (v := ⟨u, n, lang, s⟩) hb]
    dsimp only
    by_cases hi : (kindOf n).inh = true
    · by_cases ht : txtF t vs b.parent n lang = some s
      · rw [hi, sameT_txt.2 ht]
        simp [ht]
      · have hs : sameT s (foundF t.brs vs b.parent n lang) = false := by
          cases hs : sameT s (foundF t.brs vs b.parent n lang) with
          | false => rfl
          | true => exact absurd (sameT_txt.1 hs) ht
        rw [hs]
        simp [ht]
    · have hi2 : (kindOf n).inh = false := by simpa using hi
      rw [hi2]
      simp
/-- The values without one: what the units have of their own. -/
theorem drop_get {ls : List ByteArray} {vs : List Val} (hR : RightV ls vs) (v : Val) (u : Int) : getF (dropV v vs) u v.elem v.lang = if u = v.unit then none else getF vs u v.elem v.lang := by
  by_cases hu : u = v.unit
  · rw [if_pos hu]
    unfold getF
    rw [Option.map_eq_none_iff, List.find?_eq_none]
    intro y hy hq
    obtain ⟨-, h2⟩ := List.mem_filter.1 hy
    simp only [getP, Bool.and_eq_true, beq_iff_eq] at hq
    have hs : sameK y v := ⟨by rw [hq.1, hu], hq.2.1, bytes_inj hq.2.2⟩
    rw [lessV_no (ltV_irr hs), lessV_no (ltV_irr hs.symm)] at h2
    cases h2
  · rw [if_neg hu]
    cases hg : getF vs u v.elem v.lang with
    | none => exact get_none_filter _ hg
    | some s =>
      have h := get_filter hR (fun x => lessV x v || lessV v x) (get_there hg)
      have hk : (lessV ⟨u, v.elem, v.lang, s⟩ v || lessV v ⟨u, v.elem, v.lang, s⟩) = true := by
        rcases ltV_tri ⟨u, v.elem, v.lang, s⟩ v with k | k | k
        · rw [lessV_yes k]; rfl
        · exact absurd k.1 hu
        · rw [lessV_yes k, Bool.or_true]
      dsimp only at h
      rw [hk] at h
      exact h
section
variable {t : Tr} {ls : List ByteArray} {vs : List Val} {v : Val}
/-- Each unit has the old text, or it had just the new one. -/
theorem back_inv (hT : RightT t) (hR : RightV ls vs) (hP : RightV ls (putV v vs)) (hno : getF vs v.unit v.elem v.lang = none) : ∀ (k : Nat) (u : Int), (wayL t.brs u).length ≤ k →
    (txtF t (putV v vs) u v.elem v.lang = some v.text ∧ (txtF t (dropV v (normF t (putV v vs))) u v.elem v.lang = txtF t vs u v.elem v.lang ∨ txtF t vs u v.elem v.lang = some v.text)) ∨
    (txtF t (dropV v (normF t (putV v vs))) u v.elem v.lang = txtF t vs u v.elem v.lang ∧ txtF t vs u v.elem v.lang = txtF t (putV v vs) u v.elem v.lang) := by
  intro k
  induction k with
  | zero =>
    intro u hk
    have hw : wayL t.brs u = [] := List.eq_nil_of_length_eq_zero (by omega)
    refine .inr ?_
    unfold txtF foundF
    rw [hw]
    exact ⟨rfl, rfl⟩
  | succ k ih =>
    intro u hk
    cases hu : brFind t.brs u with
    | none =>
      refine .inr ?_
      rw [txt_none hu, txt_none hu, txt_none hu]
      exact ⟨rfl, rfl⟩
    | some b =>
      have hs := wayL_step hT hu
      rw [hs] at hk
      have hup := ih b.parent (by simp only [List.length_cons] at hk; omega)
      rw [txt_step hT hu, txt_step hT hu, txt_step hT hu, drop_get (normF_right hP), put_get hR hP, get_norm hP hu, put_get hR hP]
      generalize txtF t (putV v vs) b.parent v.elem v.lang = fp at hup ⊢
      generalize txtF t (dropV v (normF t (putV v vs))) b.parent v.elem v.lang = fd at hup ⊢
      generalize txtF t vs b.parent v.elem v.lang = fv at hup ⊢
      by_cases he : u = v.unit
      · subst he
        rw [if_pos rfl, if_pos ⟨rfl, rfl, rfl⟩, hno]
        dsimp only
        refine .inl ⟨rfl, ?_⟩
        by_cases hi : (kindOf v.elem).inh = true
        · rw [if_pos hi, if_pos hi]
          rcases hup with ⟨-, h⟩ | ⟨h, -⟩
          · exact h
          · exact .inl h
        · rw [if_neg hi, if_neg hi]
          exact .inl rfl
      · rw [if_neg he, if_neg (fun k => he k.1)]
        cases hg : getF vs u v.elem v.lang with
        | none =>
          dsimp only
          by_cases hi : (kindOf v.elem).inh = true
          · rw [if_pos hi, if_pos hi, if_pos hi]
            exact hup
          · rw [if_neg hi, if_neg hi, if_neg hi]
            exact .inr ⟨rfl, rfl⟩
        | some s =>
          dsimp only
          by_cases hi : (kindOf v.elem).inh = true ∧ fp = some s
          · rw [if_pos hi, if_pos hi.1]
            dsimp only
            obtain ⟨hi, rfl⟩ := hi
            rcases hup with ⟨h1, -⟩ | ⟨h1, h2⟩
            · have : s = v.text := by simpa using h1
              subst this
              exact .inl ⟨rfl, .inr rfl⟩
            · exact .inr ⟨by rw [h1, h2], rfl⟩
          · rw [if_neg hi]
            exact .inr ⟨rfl, rfl⟩
/-- Clear behind Set, where there was no value: it is there to be cleared, and each unit has the old text again, but for those that had just the new one. -/
theorem back_plain (h : (setR t ls vs v).2 = 0) (hno : getF vs v.unit v.elem v.lang = none) :
    ofI t ls (setR t ls vs v).1 = 0 ∧ clearR t ls (setR t ls vs v).1 v = (normF t (dropV v (setR t ls vs v).1), 0) ∧ ofI t ls (normF t (dropV v (setR t ls vs v).1)) = 0 ∧
      ∀ u, txtF t (normF t (dropV v (setR t ls vs v).1)) u v.elem v.lang = txtF t vs u v.elem v.lang ∨ txtF t vs u v.elem v.lang = some v.text := by
  obtain ⟨hT, hR, hP, hv, he⟩ := set_is h
  rw [he]
  have hRn : RightV ls (normF t (putV v vs)) := normF_right hP
  have hRd : RightV ls (dropV v (normF t (putV v vs))) := drop_right v hRn
  have ho : ofI t ls (normF t (putV v vs)) = 0 := ofI_zero.2 ⟨hT, hRn⟩
  have hmem : v ∈ normF t (putV v vs) := List.mem_filter.2 ⟨put_self v vs, by rw [set_stays hT hR hP hv]; rfl⟩
  have hlen : (dropV v (normF t (putV v vs))).length ≠ (normF t (putV v vs)).length := by
    intro e
    have hall := List.filter_eq_self.1 (List.Sublist.eq_of_length (l₁ := dropV v (normF t (putV v vs))) (l₂ := normF t (putV v vs)) List.filter_sublist e) v hmem
    rw [lessV_no (ltV_irr ⟨rfl, rfl, rfl⟩)] at hall
    cases hall
  refine ⟨ho, ?_, ofI_zero.2 ⟨hT, normF_right hRd⟩, fun u => ?_⟩
  · unfold clearR
    rw [if_neg (fun k => k ho), if_neg hlen]
  · have hn : txtF t (normF t (dropV v (normF t (putV v vs)))) u v.elem v.lang = txtF t (dropV v (normF t (putV v vs))) u v.elem v.lang := norm_text hT hRd _ _ _
    rw [hn]
    rcases back_inv hT hR hP hno _ u (Nat.le_refl _) with ⟨-, h⟩ | ⟨h, -⟩
    · exact h
    · exact .inl h
end
end Go.Proofs.YtjaknioojpgkiaaGreatDoor

/- What is inherited may be repeated: the normal form stays. Plainly, no condition. -/
namespace Go.Proofs.YtjaknioojpgkiaaGreatDoor
open Go.RowKit

/-- Some values with repetitions of what is inherited. -/
structure WideOk (t : Tr) (ls : List ByteArray) (n W : List Val) : Prop where
  right : RightV ls W
  old : ∀ y ∈ n, y ∈ W
  new : ∀ y ∈ W, y ∉ n → (∃ b, brFind t.brs y.unit = some b) ∧ (kindOf y.elem).inh = true ∧ getF n y.unit y.elem y.lang = none ∧ txtF t n y.unit y.elem y.lang = some y.text
theorem WideOk.start {t : Tr} {ls : List ByteArray} {n : List Val} (h : RightV ls n) : WideOk t ls n n := ⟨h, fun _ h => h, fun _ h k => absurd h k⟩
theorem key_no {ls : List ByteArray} {vs : List Val} (hR : RightV ls vs) {x : Val} (h : getF vs x.unit x.elem x.lang = none) : ∀ y ∈ vs, ¬ sameK y x := by
  rintro y hy ⟨h1, h2, h3⟩
  have := getF_each hR y hy
  rw [h1, h2, h3, h] at this
  cases this
theorem put_perm {vs : List Val} (hs : vs.Pairwise ltV) {x : Val} (hn : ∀ y ∈ vs, ¬ sameK y x) : (vs ++ [x]).Perm (putV x vs) := by
  rcases put_split x hs with ⟨y, hy, e⟩ | ⟨-, e⟩
  · exact absurd hy (hn y (by rw [e]; simp))
  · unfold putV
    conv => lhs; rw [e]
    rw [List.append_assoc]
    exact List.Perm.append_left _ (List.perm_append_comm.trans (by simp))
theorem WideOk.add {t : Tr} {ls : List ByteArray} {n W : List Val} (h : WideOk t ls n W) (hl : W.length < 1024) {x : Val} (hg : goodV ls x) (hb : ∃ b, brFind t.brs x.unit = some b) (hi : (kindOf x.elem).inh = true) (hn : getF W x.unit x.elem x.lang = none) (ht : txtF t n x.unit x.elem x.lang = some x.text) :
    WideOk t ls n (putV x W) ∧ (W ++ [x]).Perm (putV x W) := by
  have hk := key_no h.right hn
  have hp := put_perm h.right.2.2.2 hk
  have hlen : (putV x W).length ≤ 1024 := by
    rw [← hp.length_eq, List.length_append]
    simp only [List.length_cons, List.length_nil]
    omega
  refine ⟨⟨put_right h.right hg hlen, fun y hy => put_mem (h.old y hy) (hk y (h.old y hy)), fun y hy hyn => ?_⟩, hp⟩
  rcases mem_put hy with rfl | ⟨hyW, -⟩
  · refine ⟨hb, hi, ?_, ht⟩
    cases hg2 : getF n y.unit y.elem y.lang with
    | none => rfl
    | some s =>
      have := getF_each h.right _ (h.old _ (get_there hg2))
      dsimp only at this
      rw [hn] at this
      cases this
  · exact h.new y hyW hyn
section
variable {t : Tr} {ls : List ByteArray} {n W : List Val}
end
end Go.Proofs.YtjaknioojpgkiaaGreatDoor

/- What the walks of the laws of layer 29 share. No condition. -/
namespace Go.Proofs.YtjaknioojpgkiaaGreatDoor
open Go.RowKit

theorem lit2S (W : World) (x y : ByteArray) : SlS (W.alloc (.cells #[.string x, .string y] 9)) (.slice (some ⟨W.heap.size, 0, none⟩) 2 2) [x, y] := Rd.fresh W 9 1 2 [.string x, .string y] rfl (by decide)
theorem lit1V (vu ve : Int) (vl vt : ByteArray) (W : World) : SlV (W.alloc (.cells #[.int .i64 vu, .int .i64 ve, .string vl, .string vt] 29)) (.slice (some ⟨W.heap.size, 0, none⟩) 1 1) [⟨vu, ve, vl, vt⟩] := by
  have := Rd.fresh W 29 4 1 (Val.cells ⟨vu, ve, vl, vt⟩) rfl (by decide)
  simpa [SlV, Val.cells] using this
theorem few27q (ls : List ByteArray) (vs : List Val) (lv vv : Value) (W : World) (hl : SlS W lv ls) (hv : SlV W vv vs) :
    Calls Tryz.prog 12 #[lv, vv] W fun e w' => ∃ q, e = .returned (.bool q) ∧ Grew W w' := by
  refine (few_any ls vs lv vv W hl hv).mono ?_
  rintro e w' ⟨h, rfl⟩
  rcases h with rfl | ⟨rfl, -, -⟩
  · exact ⟨_, rfl, Grew.refl _⟩
  · exact ⟨_, rfl, Grew.refl _⟩
theorem set_two (t : Tr) (ls : List ByteArray) (vs : List Val) (v : Val) : ((setR t ls vs v).2 ≠ 0 ∧ (setR t ls vs v).1 = []) ∨ ((setR t ls vs v).2 = 0 ∧ (setR t ls vs v).1.length ≤ 1024) := by
  by_cases h : (setR t ls vs v).2 = 0
  · obtain ⟨hT, hR, hP, hv, he⟩ := set_is h
    exact .inr ⟨h, by rw [he]; exact (normF_right hP).2.1⟩
  · refine .inl ⟨h, ?_⟩
    unfold setR at h ⊢
    split
    · rfl
    · rename_i h1
      rw [if_neg h1] at h
      split
      · rfl
      · rename_i h2
        rw [if_neg h2] at h
        split
        · rfl
        · rename_i h3
          rw [if_neg h3] at h
          exact absurd rfl h
theorem get_is29 {vs : List Val} {u n : Int} {lang : ByteArray} {s : Bool} (h : (getF vs u n lang).isSome = s) (v : Value) (w : World) (hv : SlV w v vs) :
    Calls Tryz.prog 30 #[v, .int .i64 u, .int .i64 n, .string lang] w fun e w' => (∃ x, e = .returned (.tuple #[.string x, .bool s])) ∧ Grew w w' := by
  rw [← h]
  exact (get_any vs u n lang v w hv).mono fun e w' h => ⟨⟨_, h.1⟩, h.2⟩
theorem find_there {l : List Br} {b : Br} (hb : b ∈ l) : ∃ c, brFind l b.id = some c := by
  cases hf : brFind l b.id with
  | none => exact absurd rfl ((find_none b.id).1 hf b hb)
  | some c => exact ⟨c, rfl⟩
theorem heldB7 (w1 W : World) {p0 p1 p2 p3 p4 p5 p6 : Addr} {y0 y1 y2 y3 y4 y5 y6 : Value} (a0 : w1.cell? p0 = some y0) (a1 : w1.cell? p1 = some y1) (a2 : w1.cell? p2 = some y2) (a3 : w1.cell? p3 = some y3) (a4 : w1.cell? p4 = some y4) (a5 : w1.cell? p5 = some y5) (a6 : w1.cell? p6 = some y6) (g : Grew w1 W) :
    W.cell? p0 = some y0 ∧ W.cell? p1 = some y1 ∧ W.cell? p2 = some y2 ∧ W.cell? p3 = some y3 ∧ W.cell? p4 = some y4 ∧ W.cell? p5 = some y5 ∧ W.cell? p6 = some y6 ∧ Grew w1 W := ⟨keep_cell g a0, keep_cell g a1, keep_cell g a2, keep_cell g a3, keep_cell g a4, keep_cell g a5, keep_cell g a6, g⟩
theorem clear_key (t : Tr) (ls : List ByteArray) (vs : List Val) (u n : Int) (lang x y : ByteArray) : clearR t ls vs ⟨u, n, lang, x⟩ = clearR t ls vs ⟨u, n, lang, y⟩ := rfl
/-- Clear behind Set, unit by unit. -/
theorem back_each {t : Tr} {ls : List ByteArray} {vs : List Val} {v : Val} (h : (setR t ls vs v).2 = 0) (hno : getF vs v.unit v.elem v.lang = none) :
    (clearR t ls (setR t ls vs v).1 ⟨v.unit, v.elem, v.lang, ⟨#[]⟩⟩).2 = 0 ∧ (clearR t ls (setR t ls vs v).1 ⟨v.unit, v.elem, v.lang, ⟨#[]⟩⟩).1.length ≤ 1024 ∧
      ∀ b ∈ t.brs, ∃ o1 o2, foundR t ls vs b.id v.elem v.lang = (o1, 0) ∧ foundR t ls (clearR t ls (setR t ls vs v).1 ⟨v.unit, v.elem, v.lang, ⟨#[]⟩⟩).1 b.id v.elem v.lang = (o2, 0) ∧
        ((o1.isSome = o2.isSome ∧ (o1.getD val0).text = (o2.getD val0).text) ∨ (o1.getD val0).text = v.text) := by
  obtain ⟨hT, hR, hP, hv, he⟩ := set_is h
  obtain ⟨hg, -⟩ := valE_good hT hv
  obtain ⟨h1, h2, h3, h4⟩ := back_plain h hno
  have hlang : isLangF v.lang.data.toList = true := lang_of_langs hR.1 (inL_mem hg.2.2.2.1)
  rw [clear_key t ls _ v.unit v.elem v.lang ⟨#[]⟩ v.text, show (⟨v.unit, v.elem, v.lang, v.text⟩ : Val) = v from rfl, h2]
  refine ⟨rfl, (ofI_zero.1 h3).2.2.1, fun b hb => ?_⟩
  have ha : ∀ us, RightV ls us → askI t ls us b.id v.elem v.lang = 0 := fun us hu => askI_zero.2 ⟨⟨hT, hu⟩, find_there hb, hg.2.2.1, hlang⟩
  refine ⟨_, _, wa_found (ha vs hR), wa_found (ha _ (ofI_zero.1 h3).2), ?_⟩
  rcases h4 b.id with h | h
  · exact .inl (opt_text h.symm)
  · refine .inr ?_
    unfold txtF at h
    cases hf : foundF t.brs vs b.id v.elem v.lang with
    | none => rw [hf] at h; cases h
    | some w => rw [hf] at h; simpa using h
end Go.Proofs.YtjaknioojpgkiaaGreatDoor

/- slices.Delete of one value, on a row of the call's own; all other blocks are as they were. No condition but the sizes that a slice can have. -/
namespace Go.Proofs.YtjaknioojpgkiaaGreatDoor
open Go.RowKit

theorem own_stretchV {w : World} {base : Nat} {e : TypeId} {k g m n cap : Nat} {xs : List Value} (h : w.ownsRow base e k (.slice (some ⟨g, 0, none⟩) m cap) m xs) (hmn : m ≤ n) (hn : n ≤ cap) : ∃ ds, w.ownsRow base e k (.slice (some ⟨g, 0, none⟩) n cap) n ds ∧ ds.take (m * k) = xs := by
  obtain ⟨hl, h2⟩ := h
  rcases h2 with ⟨h3, _⟩ | ⟨g', cap', cur, hv, hb, hh, hnc, hcm, hcs, htk⟩
  · cases h3
  · injection hv with hA _ hc
    injection hA with hA
    injection hA with hA _ _
    subst hA hc
    have hmk : m * k ≤ n * k := Nat.mul_le_mul_right k hmn
    have hnk : n * k ≤ cap * k := Nat.mul_le_mul_right k hn
    refine ⟨cur.toList.take (n * k), ⟨?_, .inr ⟨g, cap, cur, rfl, hb, hh, hn, hcm, hcs, rfl⟩⟩, ?_⟩
    · rw [List.length_take, Array.length_toList, hcs]
      omega
    · rw [List.take_take, Nat.min_eq_left hmk]
      exact htk
theorem delDoneV {w0 w2 : World} {base g cap N k : Nat} {e : TypeId} {xs ds ds2 : List Value} (hds : ds.take (N * k) = xs) (h3 : w2.ownsRow base e k (.slice (some ⟨g, 0, none⟩) (N + 1) cap) (N + 1) ds2) (hd : ∀ t, t < N * k → ds2[t]? = ds[t]?) (hg : w0.grownBy w2 (some g)) :
    w2.ownsRow base e k (.slice (some ⟨g, 0, none⟩) N cap) N xs ∧ w0.grownBy w2 (some g) := by
  have h4 := own_cut h3 N (Nat.le_succ _)
  have : ds2.take (N * k) = xs := by
    rw [← hds]
    apply List.ext_getElem?
    intro t
    rw [List.getElem?_take, List.getElem?_take]
    split
    · next ht => exact hd t ht
    · rfl
  rw [this] at h4
  exact ⟨h4, hg⟩
set_option maxHeartbeats 4000000 in
set_option maxRecDepth 100000 in
theorem deleteV (base : Nat) (cs : List Val) (i : Nat) (hi : i < cs.length) (v : Value) (w : World) (hown : w.ownsRow base 29 4 v cs.length (cs.flatMap Val.cells)) (hl : cs.length ≤ 1000000) :
    Calls Tryz.prog 69 #[v, .int .i64 i, .int .i64 ((i : Int) + 1)] w fun e w' => ∃ v', e = .returned v' ∧ w'.ownsRow base 29 4 v' (cs.eraseIdx i).length ((cs.eraseIdx i).flatMap Val.cells) ∧ w.grownBy w' v.ownBlock ∧ v'.ownBlock = v.ownBlock := by
  obtain ⟨g, cap, rfl, hbg, hglt, hcap⟩ := own_form hown (by omega)
  have hcm : cap ≤ maxLen := own_max hown
  unfold maxLen at hcm
  obtain ⟨i0, hi0, hz0, hz1, hz2⟩ := info_parts cinfoV
  obtain ⟨N, hN⟩ : ∃ N, cs.length = N + 1 := ⟨cs.length - 1, by omega⟩
  have hfl := flatMap_len Val.cells 4 (fun _ => rfl) cs
  obtain ⟨ht, hd⟩ := flat_take (f := Val.cells) (k := 4) (fun _ => rfl) cs i
  obtain ⟨-, hd1⟩ := flat_take (f := Val.cells) (k := 4) (fun _ => rfl) cs (i + 1)
  have hcut := own_cut hown i (by omega)
  have hE : (cs.eraseIdx i).flatMap Val.cells = (cs.flatMap Val.cells).take (i * 4) ++ (cs.flatMap Val.cells).drop ((i + 1) * 4) := by
    rw [List.eraseIdx_eq_take_drop_succ, List.flatMap_append, ht, hd1]
  have hEl : (cs.eraseIdx i).length = N := by rw [List.length_eraseIdx_of_lt hi, hN]; omega
  have hnl : ((cs.flatMap Val.cells).drop ((i + 1) * 4)).length = (N - i) * 4 := by rw [List.length_drop, hfl, hN, ← Nat.sub_mul]; congr 1; omega
  -- the append
  have happ : ∀ a : Addr, (0 < N - i → a = ⟨g, (i + 1) * 4, none⟩) → ∃ w', (∀ ty, (Builtin.append_ #[27, 27] ty #[.slice (some ⟨g, 0, none⟩) i cap, .slice (some a) (N - i) (cap - (i + 1))]).run Tryz.prog w.drew = .ok (.slice (some ⟨g, 0, none⟩) N cap) w') ∧ w'.ownsRow base 29 4 (.slice (some ⟨g, 0, none⟩) N cap) N ((cs.eraseIdx i).flatMap Val.cells) ∧ w.grownBy w' (some g) := by
    intro a ha
    obtain ⟨w', h1, h2, h3⟩ := run_append_fits (P := Tryz.prog) w.drew base 27 0 29 i0 4 Tryz.underlying27 hi0 hz1 g i cap _ hcut a (N - i) (cap - (i + 1)) ((cs.flatMap Val.cells).drop ((i + 1) * 4)) hnl (fun j u hj => by
      have hpos : 0 < N - i := by
        have := (List.getElem?_eq_some_iff.1 hj).1
        omega
      rw [ha hpos, add_lit]
      have hc := hown.cellAt ((i + 1) * 4 + j) (by have := (List.getElem?_eq_some_iff.1 hj).1; omega)
      show w.cell? _ = _
      rw [hc, ← List.getElem?_drop]
      exact hj) (fun u hu => one_cellsV cs u (List.mem_of_mem_drop hu)) (by omega)
    rw [show i + (N - i) = N by omega] at h1 h2
    refine ⟨w', fun ty => h1, ?_, ⟨h3.os, h3.tape, h3.output, h3.size, h3.block⟩⟩
    rw [hE]
    exact h2
  rw [hEl]
  generalize (cs.eraseIdx i).flatMap Val.cells = XS at happ ⊢
  rw [hN] at hcap hi hown ⊢
  clear hfl ht hd hd1 hE hEl hnl hown hcut hl hN
  have hiz : (i : Int) ≤ ((N + 1 : Nat) : Int) := by omega
  have hi1 : ((i : Int) + 1) ≤ ((N + 1 : Nat) : Int) := by omega
  have h0z : (0 : Int) ≤ (i : Int) := by omega
  have h1z : (0 : Int) ≤ (i : Int) + 1 := by omega
  have hiz2 : (i : Int) ≤ (i : Int) + 1 := by omega
  have hne : ((i : Int) == (i : Int) + 1) = false := beq_eq_false_iff_ne.2 (by omega)
  have htn : ((i : Int) + 1).toNat = i + 1 := by omega
  have hi2 : i ≤ N + 1 := by omega
  have hi3 : i + 1 ≤ N + 1 := by omega
  have hi4 : i ≤ N := by omega
  have hi5 : i ≤ cap := by omega
  have hsub : N + 1 - (i + 1) = N - i := by omega
  by_cases hcc : cap = i + 1
  · obtain ⟨w1, hrun, ho1, hg1⟩ := happ ⟨g, 0, none⟩ (by omega)
    obtain rfl : N = i := by omega
    subst hcc
    simp only [Nat.sub_self] at hrun
    clear happ
    go_enter Tryz.func69, Tryz.ntmps69
    go_wp2_with fail
    refine region_still_tail 6 (by kernel_rfl) (by kernel_rfl) ?_
    simp only [List.take_succ_cons, List.take_zero, List.drop_succ_cons, List.drop_zero]
    iterate 6 still_step
    refine wpStill_nil ?_
    refine Lib.wpList_append_run _ rfl _ _ _ _ rfl _ _ rfl rfl _ _ (hrun _) ?_
    obtain ⟨ds, ho2, hds⟩ := own_stretchV ho1 (Nat.le_succ _) (Nat.le_refl _)
    obtain ⟨w2, ds2, hclr, ho3, hg3, hd3⟩ := run_clear_own (P := Tryz.prog) w1 27 29 0 (.agg #[.int .i64 0, .int .i64 0, .string ⟨#[]⟩, .string ⟨#[]⟩]) 4 Tryz.underlying27 Tryz.zeroValue29 rfl (by omega) (by simp [Value.cells, Value.oneCell']) ho2 N ((N + 1) - N) (Nat.lt_succ_self _)
    have hclr' : ∀ ty, (Builtin.clear_ #[27] ty #[.slice (some ⟨g, N * 4, none⟩) 1 1]).run Tryz.prog w1 = .ok (.tuple #[]) w2 := fun _ => by
      have h := hclr
      rw [show N + 1 - N = 1 by omega] at h
      exact h
    have HFIN := Lib.hid (delDoneV hds ho3 (fun t ht => hd3 t ht) (hg1.trans hg3))
    have hnz : (0 : Int) ≤ (N : Int) := by omega
    have hnz1 : (N : Int) ≤ ((N + 1 : Nat) : Int) := by omega
    have hnn : ¬ (N + 1) = N := by omega
    have hsb : N + 1 - N = 1 := by omega
    clear ho1 hg1 hrun ho2 hds hclr ho3 hg3 hd3
    go_wp2
    go_ret
    exact ⟨_, rfl, HFIN.out.1, HFIN.out.2, rfl⟩
  · obtain ⟨w1, hrun, ho1, hg1⟩ := happ ⟨g, (i + 1) * 4, none⟩ (fun _ => rfl)
    clear happ
    go_enter Tryz.func69, Tryz.ntmps69
    go_wp2_with fail
    refine region_still_tail 6 (by kernel_rfl) (by kernel_rfl) ?_
    simp only [List.take_succ_cons, List.take_zero, List.drop_succ_cons, List.drop_zero]
    iterate 6 still_step
    refine wpStill_nil ?_
    refine Lib.wpList_append_run _ rfl _ _ _ _ rfl _ _ rfl rfl _ _ (hrun _) ?_
    obtain ⟨ds, ho2, hds⟩ := own_stretchV ho1 (Nat.le_succ _) hcap
    obtain ⟨w2, ds2, hclr, ho3, hg3, hd3⟩ := run_clear_own (P := Tryz.prog) w1 27 29 0 (.agg #[.int .i64 0, .int .i64 0, .string ⟨#[]⟩, .string ⟨#[]⟩]) 4 Tryz.underlying27 Tryz.zeroValue29 rfl (by omega) (by simp [Value.cells, Value.oneCell']) ho2 N (cap - N) (Nat.lt_succ_self _)
    have hclr' : ∀ ty, (Builtin.clear_ #[27] ty #[.slice (some ⟨g, N * 4, none⟩) 1 (cap - N)]).run Tryz.prog w1 = .ok (.tuple #[]) w2 := fun _ => by
      have h := hclr
      rw [show N + 1 - N = 1 by omega] at h
      exact h
    have HFIN := Lib.hid (delDoneV hds ho3 (fun t ht => hd3 t ht) (hg1.trans hg3))
    have hnz : (0 : Int) ≤ (N : Int) := by omega
    have hnz1 : (N : Int) ≤ ((N + 1 : Nat) : Int) := by omega
    have hnn : ¬ cap = N := by omega
    have hsb : N + 1 - N = 1 := by omega
    clear ho1 hg1 hrun ho2 hds hclr ho3 hg3 hd3
    go_wp2
    go_ret
    exact ⟨_, rfl, HFIN.out.1, HFIN.out.2, rfl⟩
end Go.Proofs.YtjaknioojpgkiaaGreatDoor

/- describe.Clear, walked. The conditions: the library's own variables hold what they must; the lists are short. -/
namespace Go.Proofs.YtjaknioojpgkiaaGreatDoor
open Go.RowKit

theorem norm_drop {t : Tr} {ls : List ByteArray} {vs : List Val} (h : ofI t ls vs = 0) (v : Val) : normR t ls (dropV v vs) = (normF t (dropV v vs), 0) := by
  obtain ⟨hT, hR⟩ := ofI_zero.1 h
  unfold normR
  rw [if_pos (ofI_zero.2 ⟨hT, drop_right v hR⟩)]
theorem held2 (w1 W : World) {p0 p1 : Addr} {y0 y1 : Value} (a0 : w1.cell? p0 = some y0) (a1 : w1.cell? p1 = some y1) (g : Grew w1 W) : W.cell? p0 = some y0 ∧ W.cell? p1 = some y1 ∧ Grew w1 W := ⟨keep_cell g a0, keep_cell g a1, g⟩
set_option maxHeartbeats 16000000 in
set_option maxRecDepth 100000 in
theorem dClear (t : Tr) (ls : List ByteArray) (vs : List Val) (u n : Int) (lang : ByteArray) (rv bv lv vv : Value) (w : World) (hE : Env w) (hr : SlI w rv t.roots) (hv : SlBr w bv t.brs) (hf : FewBr t.brs) (hrl : t.roots.length ≤ 1000000) (hl : SlS w lv ls) (hvv : SlV w vv vs) (hfv : vs.length ≤ 1000000) :
    Calls Tryz.prog 19 #[.agg #[rv, bv], lv, vv, .int .i64 u, .int .i64 n, .string lang] w (RetVL (clearR t ls vs ⟨u, n, lang, ⟨#[]⟩⟩) w) := by
  have kR := fun W (hW : Grew w W) => dRight t ls vs rv bv lv vv W (hE.mono hW) (hr.mono hW) (hv.mono hW) hf hrl (hl.mono hW) (hvv.mono hW) hfv
  have KC := Lib.hid (fun W (hW : Grew w W) => cloneV vs vv W (hvv.mono hW) (by omega))
  have kN := fun uv W (hW : Grew w W) (hu : SlV W uv (dropV ⟨u, n, lang, ⟨#[]⟩⟩ vs)) (hn : (dropV ⟨u, n, lang, ⟨#[]⟩⟩ vs).length ≤ 1000000) => dNormal t ls (dropV ⟨u, n, lang, ⟨#[]⟩⟩ vs) rv bv lv uv W (hE.mono hW) (hr.mono hW) (hv.mono hW) hf hrl (hl.mono hW) hu hn
  have kFI := fun (h : ofI t ls vs = 0) W (hW : Grew w W) => dFind vs (ofI_zero.1 h).2.2.2.2 hfv ⟨u, n, lang, ⟨#[]⟩⟩ vv W (hvv.mono hW)
  have hput := fun (h : ofI t ls vs = 0) => put_hit (ofI_zero.1 h).2.2.2.2 ⟨u, n, lang, ⟨#[]⟩⟩
  have HNR := Lib.hid (fun (h : ofI t ls vs = 0) => norm_drop h ⟨u, n, lang, ⟨#[]⟩⟩)
  have H01 := Lib.hid (ofI_two t ls vs)
  have HFV := Lib.hid hfv
  generalize hRES : clearR t ls vs ⟨u, n, lang, ⟨#[]⟩⟩ = RES
  unfold clearR at hRES
  generalize ofI t ls vs = N0 at kR kFI hput HNR H01 hRES
  generalize normF t (dropV ⟨u, n, lang, ⟨#[]⟩⟩ vs) = NF at HNR hRES
  generalize normR t ls (dropV ⟨u, n, lang, ⟨#[]⟩⟩ vs) = NR at kN HNR
  generalize dropV ⟨u, n, lang, ⟨#[]⟩⟩ vs = DV at kN hput HNR hRES
  generalize hitB (fun y => decide (orderV y ⟨u, n, lang, ⟨#[]⟩⟩ = 0)) vs (vs.filter fun y => lessV y ⟨u, n, lang, ⟨#[]⟩⟩).length = hb at kFI hput
  generalize (vs.filter fun y => lessV y ⟨u, n, lang, ⟨#[]⟩⟩).length = m at kFI hput
  unfold Val.agg at kFI
  dsimp only at kFI
  unfold RetVL at kN
  have HRES := Lib.hid hRES
  have KR := Lib.hid kR
  have KN := Lib.hid kN
  have KFI := Lib.hid kFI
  have HPUT := Lib.hid hput
  obtain ⟨Ar0, cr0, rfl, -⟩ := hr.open_
  obtain ⟨Ab0, cb0, rfl, -⟩ := hv.open_
  clear kR kN kFI hput hRES hE hr hv hf hrl hl hvv hfv
  have HB := Lib.hid (show ∀ W, Grew (w.alloc (.cells #[.slice Ar0 t.roots.length cr0, .slice Ab0 t.brs.length cb0] 25)) W → W.heap[w.heap.size]? = some (.cells #[.slice Ar0 t.roots.length cr0, .slice Ab0 t.brs.length cb0] 25 (0, 0)) from fun W g => heap_keepI g (heap_newI w _))
  have GA := Lib.hid ((Grew.refl w).alloc (.cells #[.slice Ar0 t.roots.length cr0, .slice Ab0 t.brs.length cb0] 25))
  unfold RetVL
  go_enter Tryz.func19, Tryz.ntmps19
  go_wp2_with fail
  generalize w.alloc (.cells #[.slice Ar0 t.roots.length cr0, .slice Ab0 t.brs.length cb0] 25) = WA at GA HB ⊢
  refine (KR.out _ GA.out).mono ?_
  rintro e w1 ⟨rfl, g1⟩
  have G1 := Lib.hid g1
  have HG1 := Lib.hid (GA.out.trans g1)
  clear g1 KR
  dsimp only
  rcases H01.out with rfl | rfl
  · have HN2 := Lib.hid (HNR.out rfl)
    have HP2 := Lib.hid (HPUT.out rfl)
    have KF2 := Lib.hid (KFI.out rfl)
    clear HNR HPUT KFI H01
    go_wp2_with fail
    refine (KF2.out _ HG1.out).mono ?_
    rintro e w2 ⟨rfl, g2⟩
    have G2 := Lib.hid (G1.out.trans g2)
    have HG2 := Lib.hid (HG1.out.trans g2)
    clear g2 KF2
    dsimp only
    rcases HP2.out with ⟨hh, hlt, -, hers, hdl⟩ | ⟨hh, -, -, hdv⟩
    · subst hh
      have hnl : ¬ DV.length = vs.length := by omega
      obtain rfl : NR = (NF, 0) := HN2.out
      obtain rfl : RES = (NF, 0) := by have := HRES.out; rw [if_neg (fun h => h rfl), if_neg hnl] at this; exact this.symm
      have HDL := Lib.hid (show DV.length ≤ 1000000 by have := HFV.out; omega)
      have HLT := Lib.hid hlt
      have HER := Lib.hid hers
      have hmb : (m : Int) < 1000000 := by have := HFV.out; omega
      have hwm : IntKind.i64.wrap ((m : Int) + 1) = (m : Int) + 1 := IntWalk.i64_in _ (by omega)
      obtain ⟨t0, t1⟩ := two_cells (HB.out _ G2.out)
      clear HRES HN2 HP2 hers hdl hlt hnl
      go_wp2
      go_cut [12, 13] from 35 to 45 (fun s12 s13 wx => s13 = .int .i64 0 ∧ Aside (wx.ownsRow w.heap.size 29 4 s12 NF.length (NF.flatMap Val.cells)) ∧ Aside (Grew w wx))
      case first =>
        go_region_held3 (fun W => W.cell? ⟨w.heap.size, 0, none⟩ = some (.slice Ar0 t.roots.length cr0) ∧ W.cell? ⟨w.heap.size, 1, none⟩ = some (.slice Ab0 t.brs.length cb0) ∧ Grew w2 W) (refine held2 w2 _ t0 t1 (by repeat (with_reducible first | exact Grew.refl _ | exact GQ3.out | exact GQ2.out | exact GQ1.out | refine Grew.drew ?_ | refine Grew.alloc ?_ _))) (first | (go_at_call 15; with_reducible refine (KC.out _ (HG2.out.trans (by repeat (with_reducible first | exact Grew.refl _ | refine Grew.drew ?_ | refine Grew.alloc ?_ _)))).mono ?_; rintro e w5 ⟨v5, rfl, ho5, gq⟩; have GQ1 := Lib.hid (show Grew w2 w5 from Grew.trans (by repeat (with_reducible first | exact Grew.refl _ | refine Grew.drew ?_ | refine Grew.alloc ?_ _)) gq); have HO5 := Lib.hid ho5; obtain ⟨A5, c5, rfl⟩ := own_slice ho5; clear ho5 gq) | (go_at_call 69; (try rw [hwm]); refine (deleteV _ vs m HLT.out _ _ (own_later HO5.out (by repeat (with_reducible first | exact Grew.refl _ | refine Grew.drew ?_ | refine Grew.alloc ?_ _))) HFV.out).mono ?_; rintro e w6 ⟨v6, rfl, ho6, hg6, -⟩; have gx := (show Grew w2 _ from GQ1.out.trans (by repeat (with_reducible first | exact Grew.refl _ | refine Grew.drew ?_ | refine Grew.alloc ?_ _))); have GQ2 := Lib.hid (show Grew w2 w6 from Below.grown gx hg6 gx.size (fun k e => (HO5.out.lt k e).1)); rw [HER.out] at ho6; obtain ⟨A6, c6, rfl⟩ := own_slice ho6; have HS6 := Lib.hid (show SlV w6 (.slice A6 DV.length c6) DV from Rd.of_own ho6); clear ho6 hg6 gx) | (go_at_call 13; refine (KN.out _ _ (HG2.out.trans (GQ2.out.trans (by repeat (with_reducible first | exact Grew.refl _ | refine Grew.drew ?_ | refine Grew.alloc ?_ _)))) (HS6.out.mono (by repeat (with_reducible first | exact Grew.refl _ | refine Grew.drew ?_ | refine Grew.alloc ?_ _))) HDL.out).mono ?_; rintro e w7 ⟨v7, rfl, ho7, gq⟩; have GQ3 := Lib.hid (show Grew w2 w7 from GQ2.out.trans (Grew.trans (by repeat (with_reducible first | exact Grew.refl _ | refine Grew.drew ?_ | refine Grew.alloc ?_ _)) gq)); obtain ⟨A7, c7, rfl⟩ := own_slice ho7; have HO7 := Lib.hid (own_base ho7 (show w.heap.size ≤ _ from (HG2.out.trans (GQ2.out.trans (by repeat (with_reducible first | exact Grew.refl _ | refine Grew.drew ?_ | refine Grew.alloc ?_ _)))).size)); clear ho7 gq))
        all_goals go_wp2_with fail
        all_goals go_meet
        all_goals exact ⟨rfl, (show Aside _ from HO7.out), (show Aside _ from HG2.out.trans GQ3.out)⟩
      case rest =>
        obtain ⟨rfl, HO, GC⟩ := hcut
        clear t0 t1
        go_wp2
        go_ret2
        exact ⟨_, rfl, HO.out, GC.out⟩
    · subst hh
      obtain rfl : RES = ([], 7) := by have := HRES.out; rw [if_neg (fun h => h rfl), if_pos (by rw [hdv])] at this; exact this.symm
      clear HRES HN2 HP2 KC KN hdv
      go_wp2
      go_ret2
      exact ⟨_, rfl, World.ownsRow_nil _ _ _ _, HG2.out⟩
  · obtain rfl : RES = ([], 1) := by have := HRES.out; rw [if_pos (by decide)] at this; exact this.symm
    clear HRES HNR HPUT KFI H01 KC KN
    go_wp2
    go_ret2
    exact ⟨_, rfl, World.ownsRow_nil _ _ _ _, HG1.out⟩
end Go.Proofs.YtjaknioojpgkiaaGreatDoor

/- The frame that every statement of this seat needs: what a call that returns true and leaves all older blocks alone gives for the row; the witness's world, in which the listed tables lie; what the library's own variables hold. No condition. -/
namespace Go.Proofs.YtjaknioojpgkiaaGreatDoor
open Go.ChangeShapes Go.WideShapes Go.ChangeAt Go.RowKit

theorem own : ownKnob Tryz.prog.godebug = none := by kernel_rfl
theorem laidOut : laidOutB Tryz.prog = true := by kernel_rfl

/-- Arguments read as before where nothing older has turned. -/
theorem trodAll_stays {H : Type} {enc : TypeId × Value → H} {P : Program} (hl : laidOutB P = true) {W W' : World} (hb : Below W.heap.size W W') : ∀ {ts : List TypeId} {vs : List Value} {ds : List (DataW H)} {ps : List MemPlace},
    (ts.all fun t => P.readableRec t && decide (t < P.types.size)) = true → DataW.TrodAll enc P W 0 (fun _ => true) true ts vs ds ps → (∀ x ∈ ps, x.block < W.heap.size) → DataW.TrodAll enc P W' 0 (fun b => decide (b < W.heap.size)) true ts vs ds ps
  | [], _, _, _, _, h, _ => by
    obtain ⟨rfl, rfl, rfl⟩ := trodAll_nil h
    exact trodAll_mk0
  | t :: ts, _, _, _, hr, h, hlt => by
    obtain ⟨v, vs, d, ds, p, q, rfl, rfl, rfl, h1, h2⟩ := trodAll_cons h
    simp only [List.all_cons, Bool.and_eq_true, decide_eq_true_eq] at hr
    exact trodAll_cons_mk (Below.trod hl hr.1.1 hr.1.2 h1 hb fun x hx => hlt x (List.mem_append_left _ hx)) (trodAll_stays hl hb (by simpa using hr.2) h2 fun x hx => hlt x (List.mem_append_right _ hx))

/-- What the row asks of a call that returned true and left everything older as it lay. -/
theorem post_true {H : Type} {enc : TypeId × Value → H} {P : Program} (hl : laidOutB P = true) {f : Func} {s : ChangeSpec} {W W' : World} {args : Array Value} {ds gs : List (DataW H)} {before : List MemPlace} {tb : TypeId}
    (hv : s.vars = []) (hr : f.resultTypes = #[tb]) (hb : P.underlying tb = some .bool) (hp : (f.params.toList.all fun t => P.readableRec t && decide (t < P.types.size)) = true)
    (hW : DataW.Whole enc P f.params.toList s.vars false W args.toList ds gs before) (hfn : s.fn H ds = { results := [.lit (.bool true)], args := ds }) (hg : Below W.heap.size W W') :
    s.post enc P f false true false false W args (.bool true) W' := by
  have hlt := hW.lt
  have hW' := hW
  obtain ⟨p, q, hA, hV, rfl, _, _⟩ := hW
  have hV' := hV
  rw [hv] at hV'
  obtain ⟨rfl, rfl⟩ := trodVars_none hV'
  simp only [List.append_nil] at hlt hW'
  refine ⟨ds, [], p, [], p, [], hW', ?_, ?_, ?_, hg.frame _, fun h => by cases h⟩
  · rw [hr, List.append_nil, hfn]
    exact trodAll_mk1 (shut_bool hb true)
  · rw [List.append_nil, hfn]
    exact trodAll_stays hl hg hp hA hlt
  · rw [List.append_nil, hfn, hv]
    rfl
/-- The witness's world: the settled one with the tables laid. -/
noncomputable def base0R (os : Os) : World := World.holding Tryz.prog os ⟨#[], #[], []⟩
noncomputable def worldLaid (os : Os) : World :=
  { base0R os with heap := ((((((base0R os).heap.modify 4 fun
      | .cells _ t frozen => .cells #[.int .u8 0, .int .u8 1, .int .u8 28, .int .u8 2, .int .u8 29, .int .u8 14, .int .u8 24, .int .u8 3, .int .u8 30, .int .u8 22, .int .u8 20, .int .u8 15, .int .u8 25, .int .u8 17, .int .u8 4, .int .u8 8, .int .u8 31, .int .u8 27, .int .u8 13, .int .u8 23, .int .u8 21, .int .u8 19, .int .u8 16, .int .u8 7, .int .u8 26, .int .u8 12, .int .u8 18, .int .u8 6, .int .u8 11, .int .u8 5, .int .u8 10, .int .u8 9] t frozen
      | o => o).modify 5 fun
      | .cells _ t frozen => .cells #[.int .u8 0, .int .u8 1, .int .u8 56, .int .u8 2, .int .u8 57, .int .u8 49, .int .u8 28, .int .u8 3, .int .u8 61, .int .u8 58, .int .u8 42, .int .u8 50, .int .u8 38, .int .u8 29, .int .u8 17, .int .u8 4, .int .u8 62, .int .u8 47, .int .u8 59, .int .u8 36, .int .u8 45, .int .u8 43, .int .u8 51, .int .u8 22, .int .u8 53, .int .u8 39, .int .u8 33, .int .u8 30, .int .u8 24, .int .u8 18, .int .u8 12, .int .u8 5, .int .u8 63, .int .u8 55, .int .u8 48, .int .u8 27, .int .u8 60, .int .u8 41, .int .u8 37, .int .u8 16, .int .u8 46, .int .u8 35, .int .u8 44, .int .u8 21, .int .u8 52, .int .u8 32, .int .u8 23, .int .u8 11, .int .u8 54, .int .u8 26, .int .u8 40, .int .u8 15, .int .u8 34, .int .u8 20, .int .u8 31, .int .u8 10, .int .u8 25, .int .u8 14, .int .u8 19, .int .u8 9, .int .u8 13, .int .u8 8, .int .u8 7, .int .u8 6] t frozen
      | o => o).modify 3 fun
      | .cells _ t frozen => .cells #[.int .u64 1, .int .u64 10, .int .u64 100, .int .u64 1000, .int .u64 10000, .int .u64 100000, .int .u64 1000000, .int .u64 10000000, .int .u64 100000000, .int .u64 1000000000, .int .u64 10000000000, .int .u64 100000000000, .int .u64 1000000000000, .int .u64 10000000000000, .int .u64 100000000000000, .int .u64 1000000000000000, .int .u64 10000000000000000, .int .u64 100000000000000000, .int .u64 1000000000000000000, .int .u64 10000000000000000000] t frozen
      | o => o).modify 2 fun
      | .cells _ t frozen => .cells #[.int .u8 128, .int .u8 191, .int .u8 160, .int .u8 191, .int .u8 128, .int .u8 159, .int .u8 144, .int .u8 191, .int .u8 128, .int .u8 143, .int .u8 0, .int .u8 0, .int .u8 0, .int .u8 0, .int .u8 0, .int .u8 0, .int .u8 0, .int .u8 0, .int .u8 0, .int .u8 0, .int .u8 0, .int .u8 0, .int .u8 0, .int .u8 0, .int .u8 0, .int .u8 0, .int .u8 0, .int .u8 0, .int .u8 0, .int .u8 0, .int .u8 0, .int .u8 0] t frozen
      | o => o).modify 1 fun
      | .cells _ t frozen => .cells (Pinned.utf8FirstZ.map fun n : Nat => Value.int .u8 (n : Int)).toArray t frozen
      | o => o) }
def laidAll : List (String × DataW Unit) := [("math/bits.deBruijn32tab", Rows.laid_math_bits_deBruijn32tab), ("math/bits.deBruijn64tab", Rows.laid_math_bits_deBruijn64tab), ("internal/strconv.uint64pow10", Rows.laid_internal_strconv_uint64pow10), ("unicode/utf8.acceptRanges", Rows.laid_unicode_utf8_acceptRanges), ("unicode/utf8.first", Rows.laid_unicode_utf8_first)]
theorem pow_only : (laidAll.filter fun x => x.1 == "internal/strconv.uint64pow10") = [("internal/strconv.uint64pow10", Lib.tabData .u64 Lib.pow10Tab)] := by kernel_rfl
/-- What the library's own variables hold. -/
theorem env_of {W : World} (h1 : laidMetH Tryz.prog laidAll W) (h2 : W.ShapedOpen Tryz.prog) : Env W := by
  refine ⟨cell_of_shapedOpen_int (g := 0) (t := 3) (zero := #[.int .i64 0]) h2 (of_decide_eq_true (by kernel_rfl)) (by kernel_rfl) rfl (by kernel_rfl) (by kernel_rfl) Tryz.underlying3, fun _ _ => ?_⟩
  have h := h1.filter (fun x => x.1 == "internal/strconv.uint64pow10")
  rw [pow_only] at h
  have h3 := (laidMetH_iff.1 h).1
  have h4 : laidMet Tryz.prog [("internal/strconv.uint64pow10", Lib.tabData .u64 Lib.pow10Tab)] W := h3
  exact Lib.tabIs_of_head (g := 3) (t := 254) (e := 181) (n := 20) (by kernel_rfl) (by kernel_rfl) Tryz.underlying254 Tryz.underlying181 (by kernel_rfl) (by kernel_rfl) h4
end Go.Proofs.YtjaknioojpgkiaaGreatDoor

/- What the lists of authorities and relations, the relations and the trees that come in read as. No condition. -/
namespace Go.Proofs.YtjaknioojpgkiaaGreatDoor
open Go.ChangeShapes Go.WideShapes Go.ChangeAt Go.RowKit

theorem spot_none {w : World} {a : Addr} {u : Value} (h : w.cell? a = some u) : a.spot = none := by
  unfold World.cell? at h
  split at h
  · split at h
    · cases h
    · rename_i hs
      cases hz : a.spot with
      | none => rfl
      | some x => rw [hz] at hs; simp at hs
  · cases h
/-- A slice that is led to, whose elements read as things of one kind. -/
theorem open_in {α : Type} {H : Type} {enc : TypeId × Value → H} {P : Program} {W : World} {k n : Nat} {t e : TypeId} {cs : List Value} {x : DataW H × List MemPlace} (f : α → List Value) (Q : α → Prop) (hk : ∀ x, (f x).length = k) (h0 : 0 < k)
    (ht : P.underlying t = some (.slice e)) (hc : P.cellsOf e = k) (hel : ∀ n cs x, DataW.trod enc P W 0 (fun _ => true) true n e cs = some x → ∃ a, cs = f a ∧ Q a)
    (hf : DataW.trod enc P W 0 (fun _ => true) true n t cs = some x) : ∃ v, cs = [v] ∧ ∃ l : List α, Rd W k v (l.flatMap f) ∧ ∀ a ∈ l, Q a := by
  rcases Go.Deep.open_slice ht hf with ⟨hn, -⟩ | ⟨a, len0, cap0, m, n, D, Pl, hn, -, hle, hmx, hm, -, hcell⟩
  · exact ⟨_, hn, [], Rd.nil W k, (fun _ h => by cases h)⟩
  · refine ⟨_, hn, ?_⟩
    simp only [if_true] at hm
    subst hm
    rw [hc] at hcell
    have key : ∀ m, m ≤ len0 → ∃ l : List α, l.length = m ∧ (∀ a ∈ l, Q a) ∧ ∀ i (hi : i < l.length) j, j < k → W.cell? (a.add (i * k + j)) = (f l[i])[j]? := by
      intro m
      induction m with
      | zero => exact fun _ => ⟨[], rfl, (fun _ h => by cases h), fun i hi => absurd hi (Nat.not_lt_zero _)⟩
      | succ m ih =>
        intro hm
        obtain ⟨l, hl, hQ, hr⟩ := ih (by omega)
        obtain ⟨cs', hcs, htr⟩ := hcell m (by omega)
        obtain ⟨x, rfl, hx⟩ := hel _ _ _ htr
        obtain ⟨-, -, hcs⟩ := World.cells?_some hcs
        refine ⟨l ++ [x], by simp [hl], fun b hb => ?_, fun i hi j hj => ?_⟩
        · rcases List.mem_append.1 hb with h | h
          · exact hQ b h
          · rw [List.mem_singleton.1 h]; exact hx
        · by_cases hi' : i < l.length
          · rw [hr i hi' j hj, List.getElem_append_left hi']
          · have : i = m := by simp at hi; omega
            subst this
            have := hcs j hj
            rw [Go.Deep.add_add] at this
            rw [this, List.getElem_append_right (by omega)]
            simp [hl]
    obtain ⟨l, hl, hQ, hr⟩ := key len0 (Nat.le_refl _)
    refine ⟨l, ⟨some a, len0, _, rfl, by rw [flatMap_len f k hk, hl], hle, hmx, fun hpos => ?_⟩, hQ⟩
    have hz := hr 0 (by omega) 0 h0
    have hlt0 : 0 < (f (l[0]'(by omega))).length := by rw [hk]; exact h0
    rw [List.getElem?_eq_getElem hlt0] at hz
    have hsp := spot_none hz
    have ha0 : a.add (0 * k + 0) = a := by simp [Addr.add]
    rw [ha0] at hsp hz
    obtain ⟨b, off, sp⟩ := a
    obtain rfl : sp = none := hsp
    refine ⟨b, off, rfl, World.block_lt_of_cell? W _ hz, fun j u hu => ?_⟩
    have hj : j < len0 * k := by
      have := (List.getElem?_eq_some_iff.1 hu).1
      rwa [flatMap_len f k hk, hl] at this
    have hdiv : j / k < len0 := Nat.div_lt_of_lt_mul (by rw [Nat.mul_comm]; exact hj)
    have hmod : j % k < k := Nat.mod_lt _ h0
    have e : j = j / k * k + j % k := by rw [Nat.mul_comm]; exact (Nat.div_add_mod j k).symm
    have h1 := hr (j / k) (by omega) (j % k) hmod
    rw [add_lit, ← e] at h1
    rw [h1, ← flatMap_get f k hk l (j / k) (j % k) (by omega) hmod, ← e]
    exact hu
section
variable {H : Type} {enc : TypeId × Value → H} {W : World}
set_option maxRecDepth 100000 in
theorem in_int {n : Nat} {cs : List Value} {x : DataW H × List MemPlace} (h : DataW.trod enc Tryz.prog W 0 (fun _ => true) true n 3 cs = some x) : ∃ a : Int, cs = [.int .i64 a] := by
  obtain ⟨a, ha, -⟩ := DataW.trod_int Tryz.underlying3 h
  exact ⟨a, ha⟩
set_option maxRecDepth 100000 in
theorem in_slI {n : Nat} {cs : List Value} {x : DataW H × List MemPlace} (h : DataW.trod enc Tryz.prog W 0 (fun _ => true) true n 22 cs = some x) : ∃ v, cs = [v] ∧ ∃ l, SlI W v l := by
  obtain ⟨v, hv, l, hl, -⟩ := open_in (k := 1) oneI (fun _ => True) (fun _ => rfl) (by omega) Tryz.underlying22 (by kernel_rfl) (fun n cs x hx => by obtain ⟨a, ha⟩ := in_int hx; exact ⟨a, ha, trivial⟩) h
  exact ⟨v, hv, l, hl⟩
theorem choose_list {α β : Type} {R : α → β → Prop} : ∀ l : List α, (∀ a ∈ l, ∃ b, R a b) → ∃ m : List β, l.length = m.length ∧ ∀ i (h : i < l.length) (h' : i < m.length), R l[i] m[i]
  | [], _ => ⟨[], rfl, fun _ h => absurd h (Nat.not_lt_zero _)⟩
  | a :: l, h => by
    obtain ⟨b, hb⟩ := h a (List.mem_cons_self ..)
    obtain ⟨m, hm, hr⟩ := choose_list l (fun x hx => h x (List.mem_cons_of_mem _ hx))
    refine ⟨b :: m, by simp [hm], fun i h1 h2 => ?_⟩
    cases i with
    | zero => exact hb
    | succ i => exact hr i (by simpa using h1) (by simpa using h2)
set_option maxRecDepth 100000 in
theorem in_br {n : Nat} {cs : List Value} {x : DataW H × List MemPlace} (h : DataW.trod enc Tryz.prog W 0 (fun _ => true) true n 56 cs = some x) : ∃ c : BrC, cs = c.cells ∧ ∃ a, BrOk W c a := by
  obtain ⟨xs, m, -, -, hl, hlen, hf⟩ := DataW.trod_struct Tryz.underlying56 h
  have hl4 : cs.length = 6 := hl.trans (by kernel_rfl)
  match xs, hlen with
  | [y0, y1], _ =>
    have h0 := hf 0 _ rfl
    have h1 := hf 1 _ rfl
    match cs, hl4 with
    | [c0, c1, c2, c3, c4, c5], _ =>
      have k0 : Tryz.prog.cellsOf 54 = 5 := by kernel_rfl
      have k4 : Tryz.prog.cellsOf 22 = 1 := by kernel_rfl
      simp only [List.getElem_toArray, List.getElem_cons_zero, List.getElem_cons_succ, k0, k4, List.getElem?_cons_zero, List.getElem?_cons_succ, List.drop_zero, List.drop_succ_cons, List.take_succ_cons, List.take_zero] at h0 h1
      obtain ⟨us, m2, -, -, hl2, hlen2, hg⟩ := DataW.trod_struct Tryz.underlying54 h0
      match us, hlen2 with
      | [z0, z1, z2, z3, z4], _ =>
        have g0 := hg 0 _ rfl
        have g1 := hg 1 _ rfl
        have g2 := hg 2 _ rfl
        have g3 := hg 3 _ rfl
        have g4 := hg 4 _ rfl
        have k1 : Tryz.prog.cellsOf 3 = 1 := by kernel_rfl
        have k2 : Tryz.prog.cellsOf 9 = 1 := by kernel_rfl
        simp only [List.getElem_toArray, List.getElem_cons_zero, List.getElem_cons_succ, k1, k2, List.getElem?_cons_zero, List.getElem?_cons_succ, List.drop_zero, List.drop_succ_cons, List.take_succ_cons, List.take_zero] at g0 g1 g2 g3 g4
        obtain ⟨a, ha⟩ := in_int g0
        obtain ⟨b, hb⟩ := in_int g1
        obtain ⟨c, hc⟩ := in_int g2
        obtain ⟨d, hd, -⟩ := DataW.trod_string Tryz.underlying9 g3
        obtain ⟨e, he, -⟩ := DataW.trod_string Tryz.underlying9 g4
        obtain ⟨kv, hx, ks, hks⟩ := in_slI h1
        simp only [List.cons.injEq, and_true] at ha hb hc hd he hx
        subst ha hb hc hd he hx
        exact ⟨⟨a, b, c, d, e, c5⟩, rfl, ⟨a, b, c, d, e, ks⟩, rfl, hks⟩
set_option maxRecDepth 100000 in
theorem in_slBr {n : Nat} {cs : List Value} {x : DataW H × List MemPlace} (h : DataW.trod enc Tryz.prog W 0 (fun _ => true) true n 23 cs = some x) : ∃ v, cs = [v] ∧ ∃ l, SlBr W v l := by
  obtain ⟨v, hv, l, hl, hQ⟩ := open_in (k := 6) BrC.cells (fun c => ∃ a, BrOk W c a) (fun _ => rfl) (by omega) Tryz.underlying23 (by kernel_rfl) (fun n cs x hx => in_br hx) h
  obtain ⟨m, hm, hr⟩ := choose_list l hQ
  exact ⟨v, hv, m, l, hl, hm, hr⟩
set_option maxRecDepth 100000 in
theorem open_tree {base : Nat} {v : Value} {d : DataW H} {ps : List MemPlace} (hval : Value.okWide Tryz.prog W .any base 25 v) (h : DataW.Trod enc Tryz.prog W 0 (fun _ => true) true 25 v d ps) : ∃ rv bv, v = .agg #[rv, bv] ∧ ∃ t, TrOk W rv bv t := by
  obtain ⟨cs, rfl, -⟩ := okWide_struct Tryz.underlying25 hval
  obtain ⟨fuel, hf⟩ := h
  obtain ⟨xs, m, -, -, hl, hlen, hf⟩ := DataW.trod_struct Tryz.underlying25 hf
  simp only [Value.cells] at hl hf
  obtain ⟨cs⟩ := cs
  have hl4 : cs.length = 2 := hl.trans (by kernel_rfl)
  match xs, hlen with
  | [y0, y1], _ =>
    have h0 := hf 0 _ rfl
    have h1 := hf 1 _ rfl
    match cs, hl4 with
    | [c0, c1], _ =>
      have k1 : Tryz.prog.cellsOf 22 = 1 := by kernel_rfl
      have k2 : Tryz.prog.cellsOf 23 = 1 := by kernel_rfl
      simp only [List.getElem_toArray, List.getElem_cons_zero, List.getElem_cons_succ, k1, k2, List.getElem?_cons_zero, List.getElem?_cons_succ, List.drop_zero, List.drop_succ_cons, List.take_succ_cons, List.take_zero] at h0 h1
      obtain ⟨rv, hrv, rs, hrs⟩ := in_slI h0
      obtain ⟨bv, hbv, bs, hbs⟩ := in_slBr h1
      simp only [List.cons.injEq, and_true] at hrv hbv
      subst hrv hbv
      exact ⟨c0, c1, rfl, ⟨rs, bs⟩, hrs, hbs⟩
end
end Go.Proofs.YtjaknioojpgkiaaGreatDoor
