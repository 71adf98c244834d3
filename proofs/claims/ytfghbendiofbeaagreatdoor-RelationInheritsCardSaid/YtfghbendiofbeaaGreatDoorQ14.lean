/- Lemmas on what the functions of the program and of the library compute: T7, T8, T9, T10, T11, T12. The conditions stand at each. -/
import Derived.Test.YtfghbendiofbeaaGreatDoorQ13
import Derived.Test.YtfghbendiofbeaaGreatDoorQ10
/- tree: right, Find, walked. The conditions: the library's own variables hold what they must; the lists are short. -/
namespace Go.Proofs.YtfghbendiofbeaaGreatDoor
open Go.RowKit

/-- A call that answers whether P holds. -/
def RetB (P : Prop) (w : World) (e : Ending) (w' : World) : Prop := ∃ b : Bool, e = .returned (.bool b) ∧ (b = true ↔ P) ∧ Grew w w'
theorem tRight (rs : List Int) (l : List Br) (rv bv : Value) (w : World) (hE : Env w) (hr : SlI w rv rs) (hv : SlBr w bv l) (hf : FewBr l) (hrl : rs.length ≤ 1000000) :
    Calls Tryz.prog 128 #[.agg #[rv, bv]] w (RetB (RightT ⟨rs, l⟩) w) := by
  have K := Lib.hid (fun W (hW : Grew w W) => tCheck rs l rv bv W (hE.mono hW) (hr.mono hW) (hv.mono hW) hf hrl)
  clear hE hr hv hf hrl
  go_enter Tryz.func128, Tryz.ntmps128
  go_wp2_with fail
  refine (K.out _ ((Grew.refl w).alloc _)).mono ?_
  rintro e w1 ⟨i, n, rfl, hn, g⟩
  have HN := Lib.hid hn
  have HG := Lib.hid (((Grew.refl w).alloc _).trans g)
  clear hn g
  dsimp only
  cases hz : (n == 0)
  · go_wp2
    go_ret
    exact ⟨false, rfl, ⟨(fun h => by cases h), (fun h => by rw [HN.out.2 h] at hz; cases hz)⟩, HG.out⟩
  · go_wp2
    go_ret
    exact ⟨true, rfl, ⟨fun _ => HN.out.1 (by simpa using hz), fun _ => rfl⟩, HG.out⟩
def br0 : Br := ⟨0, 0, 0, ⟨#[]⟩, ⟨#[]⟩, []⟩
/-- How Find of a tree ends. -/
def TFindEnd (o : Option Br) (w : World) (e : Ending) (w' : World) : Prop :=
  e = .returned (.tuple #[.agg #[.int .i64 (o.getD br0).id, .int .i64 (o.getD br0).parent, .int .i64 (o.getD br0).level, .string (o.getD br0).title, .string (o.getD br0).mark], .bool o.isSome]) ∧ Grew w w'
set_option maxHeartbeats 2000000 in
theorem tFind (l : List Br) (id : Int) (rv bv : Value) (w : World) (hv : SlBr w bv l) : Calls Tryz.prog 32 #[.agg #[rv, bv], .int .i64 id] w (TFindEnd (brFind l id) w) := by
  have HV := Lib.hid hv
  have kI := fun W (hW : Grew w W) => tIndex l id rv bv W (HV.out.mono hW)
  cases ho : brFind l id with
  | none =>
    rw [brIdx_none ho] at kI
    have KI := Lib.hid kI
    clear kI ho hv
    go_enter Tryz.func32, Tryz.ntmps32
    go_wp2_with fail
    refine (KI.out _ (((Grew.refl w).alloc _).alloc _)).mono ?_
    rintro e w1 ⟨rfl, g1⟩
    have hz1 : w.heap.size + 1 < w1.heap.size := Nat.lt_of_lt_of_le (by simp) g1.size
    obtain ⟨hc1, hf1⟩ := g1.cells
    have HG1 := Lib.hid g1
    clear g1
    dsimp only
    go_wp2
    refine bodyPost_ret (v := .tuple #[.agg #[.int .i64 0, .int .i64 0, .int .i64 0, .string ⟨#[]⟩, .string ⟨#[]⟩], .bool false]) (by simp [results, Tryz.results32, go_sem, hc1]) rfl ⟨rfl, ?_⟩
    repeat (with_reducible refine Grew.setCell ?_ (by simp) _)
    exact (((Grew.refl w).alloc _).alloc _).trans HG1.out
  | some p =>
    obtain ⟨k, hk, ek, rfl⟩ := brIdx_some ho
    rw [ek] at kI
    obtain ⟨A, c, rfl, hlc, hc, hr⟩ := hv.open_
    unfold maxLen at hc
    obtain ⟨bb, off, rfl, hbk, hcell⟩ := hr (by omega)
    obtain ⟨kv, -, hcl⟩ := hcell k hk
    have KI := Lib.hid kI
    have HCL := Lib.hid hcl
    have hkz : (k : Int) < (l.length : Int) := by omega
    have h0z : (0 : Int) ≤ (k : Int) := by omega
    have hneg : ¬ (k : Int) < 0 := by omega
    generalize l[k] = y at HCL
    obtain ⟨yi, yp, yl, yt, ym, yk⟩ := y
    dsimp only at HCL
    clear kI ho hv ek hcell hcl hr
    go_enter Tryz.func32, Tryz.ntmps32
    go_wp2_with fail
    refine (KI.out _ (((Grew.refl w).alloc _).alloc _)).mono ?_
    rintro e w1 ⟨rfl, g1⟩
    have hz1 : w.heap.size + 1 < w1.heap.size := Nat.lt_of_lt_of_le (by simp) g1.size
    have hy1 : w.heap.size < w1.heap.size := by omega
    have HW1 := Lib.hid ((((Grew.refl w).alloc _).alloc _).trans g1)
    obtain ⟨c0, c1, c2, c3, c4, -⟩ := HCL.out w1 HW1.out
    obtain ⟨hc1, hf1⟩ := g1.cells
    clear g1
    dsimp only
    go_wp2
    refine bodyPost_ret (v := .tuple #[.agg #[.int .i64 yi, .int .i64 yp, .int .i64 yl, .string yt, .string ym], .bool true]) (by simp [results, Tryz.results32, go_sem, hc1]) rfl ⟨rfl, ?_⟩
    repeat (with_reducible refine Grew.setCell ?_ (by simp) _)
    exact HW1.out
end Go.Proofs.YtfghbendiofbeaaGreatDoor

/- tree.at, walked: the binary search of a unit. The condition: the units ascend, and are not too many. -/
namespace Go.Proofs.YtfghbendiofbeaaGreatDoor
open Go.RowKit

theorem tAt1 (y : BrC) (id : Int) (w : World) : Calls Tryz.prog 165 #[y.agg, .int .i64 id] w fun e w' => e = .returned (.int .i64 (Lib.compareInt y.id id)) ∧ Grew w w' := by
  have h1 := Tryz.cmp_Compare_int y.id id
  unfold BrC.agg
  generalize Lib.compareInt y.id id = r at h1
  have H1 := Lib.hid h1
  clear h1
  go_enter Tryz.func165, Tryz.ntmps165
  go_wp2_with fail
  refine (H1.out _).mono ?_
  rintro e w1 ⟨rfl, rfl⟩
  dsimp only
  go_wp2
  go_ret
  exact ⟨rfl, (Grew.refl w).alloc _⟩
def cmpId (id : Int) (b : Br) : Int := Lib.compareInt b.id id
set_option maxHeartbeats 2000000 in
theorem searchB (l : List Br) (id : Int) (v : Value) (w : World) (hv : SlBr w v l) (hlen : l.length ≤ 1000000)
    (hm : ∀ i j (hi : i < l.length) (hj : j < l.length), i ≤ j → cmpId id l[j] < 0 → cmpId id l[i] < 0) :
    Calls Tryz.prog 164 #[v, .int .i64 id, .func (.func 165) #[] #[]] w fun e w' =>
      e = .returned (.tuple #[.int .i64 (passes (fun y => decide (cmpId id y < 0)) l), .bool (hitB (fun y => decide (cmpId id y = 0)) l (passes (fun y => decide (cmpId id y < 0)) l))]) ∧ Grew w w' := by
  obtain ⟨A, c, rfl, hlc, hcap, hr⟩ := hv.open_
  have HR := Lib.hid hr
  have HM := Lib.hid hm
  have HP := Lib.hid (passes_eq (fun y => decide (cmpId id y < 0)) l)
  clear hv hr hm hcap hlc
  generalize passes (fun y => decide (cmpId id y < 0)) l = P0 at HP ⊢
  generalize hh0 : hitB (fun y => decide (cmpId id y = 0)) l P0 = hb0
  have HH0 := Lib.hid hh0
  clear hh0
  go_enter Tryz.func164, Tryz.ntmps164
  go_wp2
  go_loopg [9, 10] l.length (fun gg s9 s10 wr => ∃ i j : Nat, i ≤ j ∧ j ≤ l.length ∧ j - i ≤ gg ∧ s9 = .int .i64 i ∧ s10 = .int .i64 j ∧ Aside (Grew w wr) ∧ Aside (∀ t (h : t < l.length), t < i → cmpId id l[t] < 0) ∧ Aside (∀ t (h : t < l.length), j ≤ t → ¬ cmpId id l[t] < 0))
  case atStart => exact ⟨0, l.length, by omega, by omega, by omega, rfl, rfl, (show Aside _ from Grew.refl _), (show Aside _ from fun t h ht => by omega), (show Aside _ from fun t h ht => by omega)⟩
  case round =>
    obtain ⟨i, j, hij, hj, hgk, rfl, rfl, BW, M1, M2⟩ := hrel
    by_cases hlt : i < j
    · have hltz : (i : Int) < (j : Int) := by omega
      have hmid : ((i : Int) + (j : Int)) / 2 = (((i + j) / 2 : Nat) : Int) := by omega
      have hk1 : i ≤ (i + j) / 2 := by omega
      have hk2 : (i + j) / 2 < j := by omega
      have hkl : (i + j) / 2 < l.length := by omega
      have hkz : (i : Int) + (j : Int) < 2 * (l.length : Int) := by omega
      have hkz2 : ((i : Int) + (j : Int)) / 2 < (l.length : Int) := by omega
      have h0z : (0 : Int) ≤ ((i : Int) + (j : Int)) / 2 := by omega
      have htn : (((i : Int) + (j : Int)) / 2).toNat = (i + j) / 2 := by omega
      obtain ⟨b, off, rfl, hb, hcell⟩ := HR.out (by omega)
      obtain ⟨kv, hkv, hcl⟩ := hcell ((i + j) / 2) hkl
      obtain ⟨c0, c1, c2, c3, c4, c5⟩ := hcl wr BW.out
      obtain ⟨Az, cz, rfl, -, -, -⟩ := hkv.open_
      have HN1 : RowKit.Hid (cmpId id l[(i + j) / 2] < 0 → ∀ t (h : t < l.length), t < (i + j) / 2 + 1 → cmpId id l[t] < 0) := fun h t ht htk => HM.out t _ ht hkl (by omega) h
      have HN2 : RowKit.Hid (¬ cmpId id l[(i + j) / 2] < 0 → ∀ t (h : t < l.length), (i + j) / 2 ≤ t → ¬ cmpId id l[t] < 0) := fun h t ht htk h3 => h (HM.out _ t hkl ht htk h3)
      have HMID := Lib.hid hmid
      clear hcell hcl hkv hmid
      unfold cmpId at HN1 HN2
      generalize l[(i + j) / 2] = y at c0 c1 c2 c3 c4 c5 HN1 HN2
      obtain ⟨yi, yp, yl, yt, ym, yk⟩ := y
      dsimp only at c0 c1 c2 c3 c4 c5 HN1 HN2
      have kC := fun W => tAt1 ⟨yi, yp, yl, yt, ym, .slice Az yk.length cz⟩ id W
      dsimp only [BrC.agg] at kC
      generalize Lib.compareInt yi id = r at kC HN1 HN2
      have KC := Lib.hid kC
      clear kC
      by_cases hneg : r < 0
      · have Hn := Lib.hid (HN1.out hneg)
        go_wp2_with fail
        refine (KC.out _).mono ?_
        rintro e w1 ⟨rfl, g1⟩
        have HG1 := Lib.hid g1
        clear g1
        dsimp only
        go_wp2
        rw [HMID.out]
        go_roundg (j - ((i + j) / 2 + 1))
        case measure => omega
        case rel => exact ⟨(i + j) / 2 + 1, j, by omega, by omega, by omega, by go_num, rfl, (show Aside _ from BW.out.trans HG1.out), (show Aside _ from Hn.out), M2⟩
      · have hneg' : decide (r < 0) = false := by simpa using hneg
        have Hn := Lib.hid (HN2.out hneg)
        go_wp2_with fail
        refine (KC.out _).mono ?_
        rintro e w1 ⟨rfl, g1⟩
        have HG1 := Lib.hid g1
        clear g1
        dsimp only
        go_wp2
        rw [HMID.out]
        go_roundg ((i + j) / 2 - i)
        case measure => omega
        case rel => exact ⟨i, (i + j) / 2, by omega, by omega, by omega, rfl, rfl, (show Aside _ from BW.out.trans HG1.out), M1, (show Aside _ from Hn.out)⟩
    · have hltz : ¬ (i : Int) < (j : Int) := by omega
      obtain rfl : i = j := by omega
      have hP := HP.out i hj (fun t h ht => by simpa using M1.out t h ht) (fun t h ht => by simpa using M2.out t h ht)
      subst hP
      by_cases hil : P0 < l.length
      · have hilz : (P0 : Int) < (l.length : Int) := by omega
        have h0z : (0 : Int) ≤ (P0 : Int) := by omega
        obtain ⟨b, off, rfl, hb, hcell⟩ := HR.out (by omega)
        obtain ⟨kv, hkv, hcl⟩ := hcell P0 hil
        obtain ⟨c0, c1, c2, c3, c4, c5⟩ := hcl wr BW.out
        obtain ⟨Az, cz, rfl, -, -, -⟩ := hkv.open_
        have hh : (cmpId id l[P0] == 0) = hb0 := by
          rw [← HH0.out]
          simp only [hitB, List.getElem?_eq_getElem hil]
          rfl
        unfold cmpId at hh
        clear hcell hcl hkv
        generalize l[P0] = y at c0 c1 c2 c3 c4 c5 hh
        obtain ⟨yi, yp, yl, yt, ym, yk⟩ := y
        dsimp only at c0 c1 c2 c3 c4 c5 hh
        have kC := fun W => tAt1 ⟨yi, yp, yl, yt, ym, .slice Az yk.length cz⟩ id W
        dsimp only [BrC.agg] at kC
        generalize Lib.compareInt yi id = r at kC hh
        have KC := Lib.hid kC
        have HHE := Lib.hid hh
        clear kC hh
        go_wp2_with fail
        refine (KC.out _).mono ?_
        rintro e w1 ⟨rfl, g1⟩
        have HG1 := Lib.hid g1
        clear g1
        dsimp only
        go_wp2
        go_ret2
        exact ⟨ret_ib HHE.out, BW.out.trans HG1.out⟩
      · have hilz : decide ((P0 : Int) < (l.length : Int)) = false := by simp; omega
        have hh : false = hb0 := by rw [← HH0.out]; simp [hitB, hil]
        have HHE := Lib.hid hh
        clear hh
        go_wp2
        go_ret2
        exact ⟨ret_ib HHE.out, BW.out⟩
theorem tAt (l : List Br) (id : Int) (rv bv : Value) (w : World) (hv : SlBr w bv l) (hlen : l.length ≤ 1000000)
    (hm : ∀ i j (hi : i < l.length) (hj : j < l.length), i ≤ j → cmpId id l[j] < 0 → cmpId id l[i] < 0) :
    Calls Tryz.prog 129 #[.agg #[rv, bv], .int .i64 id] w fun e w' =>
      e = .returned (.tuple #[.int .i64 (passes (fun y => decide (cmpId id y < 0)) l), .bool (hitB (fun y => decide (cmpId id y = 0)) l (passes (fun y => decide (cmpId id y < 0)) l))]) ∧ Grew w w' := by
  have K := Lib.hid (fun W (hW : Grew w W) => searchB l id bv W (hv.mono hW) hlen hm)
  generalize hitB (fun y => decide (cmpId id y = 0)) l (passes (fun y => decide (cmpId id y < 0)) l) = hb at K ⊢
  generalize passes (fun y => decide (cmpId id y < 0)) l = P0 at K ⊢
  clear hv hm
  go_enter Tryz.func129, Tryz.ntmps129
  go_wp2_with fail
  refine (K.out _ ((Grew.refl w).alloc _)).mono ?_
  rintro e w1 ⟨rfl, g1⟩
  dsimp only
  go_wp2
  go_ret2
  exact ⟨rfl, ((Grew.refl w).alloc _).trans g1⟩
end Go.Proofs.YtfghbendiofbeaaGreatDoor

/- tree.known on a right tree, walked. The conditions: the library's own variables hold what they must; the lists are short. -/
namespace Go.Proofs.YtfghbendiofbeaaGreatDoor
open Go.RowKit

theorem ids_asc {l : List Br} (h : ∀ i (h : i < l.length), BrAlone l i h) : ∀ i j (hi : i < l.length) (hj : j < l.length), i < j → l[i].id < l[j].id := by
  intro i j hi hj hij
  induction j with
  | zero => omega
  | succ j ih =>
    have h1 := (h (j + 1) hj).2.2.1 (by omega)
    simp only [Nat.add_sub_cancel] at h1
    by_cases e : i = j
    · subst e; exact h1
    · have := ih (by omega) (by omega)
      omega
theorem cmpId_lt (id : Int) (b : Br) : cmpId id b < 0 ↔ b.id < id := by
  unfold cmpId Lib.compareInt
  split
  · simp [*]
  · split <;> simp <;> omega
theorem cmpId_eq (id : Int) (b : Br) : cmpId id b = 0 ↔ b.id = id := by
  unfold cmpId Lib.compareInt
  split
  · simp; omega
  · split <;> simp <;> omega
theorem cmpId_mono {l : List Br} (h : ∀ i (h : i < l.length), BrAlone l i h) (id : Int) : ∀ i j (hi : i < l.length) (hj : j < l.length), i ≤ j → cmpId id l[j] < 0 → cmpId id l[i] < 0 := by
  intro i j hi hj hij hc
  rw [cmpId_lt] at hc ⊢
  by_cases e : i = j
  · subst e; exact hc
  · have := ids_asc h i j hi hj (by omega)
    omega
/-- On ascending units the place that the search finds is the unit's own. -/
theorem at_some {l : List Br} (h : ∀ i (h : i < l.length), BrAlone l i h) (id : Int) (k : Nat) (hk : k < l.length) (hid : l[k].id = id) : passes (fun y => decide (cmpId id y < 0)) l = k ∧ hitB (fun y => decide (cmpId id y = 0)) l k = true := by
  constructor
  · refine passes_eq _ l k (by omega) (fun t ht htk => ?_) (fun t ht htk => ?_)
    · have := ids_asc h t k ht hk htk
      simp only [decide_eq_true_eq, cmpId_lt]
      omega
    · simp only [decide_eq_false_iff_not, cmpId_lt]
      by_cases e : k = t
      · subst e; omega
      · have := ids_asc h k t hk ht (by omega)
        omega
  · simp only [hitB, List.getElem?_eq_getElem hk, decide_eq_true_eq, cmpId_eq]
    exact hid
theorem at_none {l : List Br} (id : Int) (hf : brFind l id = none) (k : Nat) : hitB (fun y => decide (cmpId id y = 0)) l k = false := by
  unfold hitB
  cases hk : l[k]? with
  | none => rfl
  | some y =>
    have hm : y ∈ l := List.mem_of_getElem? hk
    have := List.find?_eq_none.1 hf y hm
    simp only [decide_eq_false_iff_not, cmpId_eq]
    simpa using this
def knownF (l : List Br) (ids : List Int) : Int := if ids.all (fun id => (brFind l id).isSome) then 0 else 7
theorem hit_find {l : List Br} (h : ∀ i (h : i < l.length), BrAlone l i h) (id : Int) : hitB (fun y => decide (cmpId id y = 0)) l (passes (fun y => decide (cmpId id y < 0)) l) = (brFind l id).isSome := by
  cases ho : brFind l id with
  | none => exact at_none id ho _
  | some b =>
    obtain ⟨k, hk, _, e⟩ := brIdx_some ho
    have hid : l[k].id = id := by
      rw [e]
      have := List.find?_some ho
      simpa using this
    obtain ⟨h1, h2⟩ := at_some h id k hk hid
    rw [h1, h2]
    rfl
set_option maxHeartbeats 2000000 in
theorem tKnown (rs : List Int) (l : List Br) (ids : List Int) (rv bv kv : Value) (w : World) (hE : Env w) (hr : SlI w rv rs) (hv : SlBr w bv l) (hk : SlI w kv ids) (hf : FewBr l) (hrl : rs.length ≤ 1000000) (hT : RightT ⟨rs, l⟩) :
    Calls Tryz.prog 99 #[.agg #[rv, bv], kv] w fun e w' => e = .returned (.int .i64 (knownF l ids)) ∧ Grew w w' := by
  have KR := Lib.hid (fun W (hW : Grew w W) => tRight rs l rv bv W (hE.mono hW) (hr.mono hW) (hv.mono hW) hf hrl)
  have KA := Lib.hid (fun id W (hW : Grew w W) => tAt l id rv bv W (hv.mono hW) hf.1 (cmpId_mono hT.2.1 id))
  have HF := Lib.hid (fun id => hit_find hT.2.1 id)
  have HT := Lib.hid hT
  obtain ⟨Ab, cb, rfl, -, -, -⟩ := hv.open_
  obtain ⟨A, c, rfl, hlc, hc, hkr⟩ := hk.open_
  unfold maxLen at hc
  have HK := Lib.hid hkr
  obtain ⟨Ar, cr, rfl, -, -, -⟩ := hr.open_
  clear hE hr hv hk hf hrl hT hkr
  generalize hKF : knownF l ids = R
  have HKF := Lib.hid hKF
  clear hKF
  go_enter Tryz.func99, Tryz.ntmps99
  go_wp2_with fail
  refine (KR.out _ ((Grew.refl w).alloc _)).mono ?_
  rintro e w1 ⟨bb, rfl, hbb, g1⟩
  obtain rfl := hbb.2 HT.out
  have HG1 := Lib.hid g1
  clear hbb g1
  dsimp only
  go_wp2
  go_loopg [14] ids.length (fun gg s14 wr => ∃ k : Nat, k ≤ ids.length ∧ ids.length - k ≤ gg ∧ s14 = .int .i64 k ∧ Aside (Grew (w.alloc (.cells [.slice Ar rs.length cr, .slice Ab l.length cb].toArray 51)) wr) ∧ Aside (∀ i (h : i < ids.length), i < k → (brFind l ids[i]).isSome = true))
  case atStart => exact ⟨0, by omega, by omega, rfl, (show Aside _ from HG1.out), (show Aside _ from fun i h h2 => by omega)⟩
  case round =>
    obtain ⟨k, hkk, hgk, rfl, BW, M⟩ := hrel
    have HGW := Lib.hid (((Grew.refl w).alloc _).trans BW.out)
    by_cases hlt : k < ids.length
    case neg =>
      have hltz : ¬ (k : Int) < (ids.length : Int) := by omega
      have hR : R = 0 := by
        rw [← HKF.out, knownF, if_pos]
        rw [List.all_eq_true]
        intro x hx
        obtain ⟨i, hi, rfl⟩ := List.mem_iff_getElem.1 hx
        exact M.out i hi (by omega)
      have HRR := Lib.hid hR
      clear hR
      go_wp2
      go_ret
      exact ⟨congrArg (fun z => Ending.returned (Value.int .i64 z)) HRR.out.symm, HGW.out⟩
    have hltz : (k : Int) < (ids.length : Int) := by omega
    have h0z : (0 : Int) ≤ (k : Int) := by omega
    obtain ⟨b, off, rfl, hb, hcell⟩ := HK.out (by omega)
    have c0 := hcell wr HGW.out k hlt
    have b0 := new_cell BW.out 0 _ rfl
    have b1 := new_cell BW.out 1 _ rfl
    have kA := KA.out ids[k] wr HGW.out
    rw [HF.out ids[k]] at kA
    have HBAD : RowKit.Hid ((brFind l ids[k]).isSome = false → R = 7) := fun h => by
      rw [← HKF.out, knownF, if_neg]
      rw [List.all_eq_true]
      intro hall
      have := hall ids[k] (List.getElem_mem hlt)
      rw [h] at this
      cases this
    have HST : RowKit.Hid ((brFind l ids[k]).isSome = true → ∀ i (h : i < ids.length), i < k + 1 → (brFind l ids[i]).isSome = true) := fun h i hi h2 => by
      by_cases e : i = k
      · subst e; exact h
      · exact M.out i hi (by omega)
    generalize (brFind l ids[k]).isSome = q at kA HBAD HST
    generalize ((passes (fun y => decide (cmpId ids[k] y < 0)) l : Nat) : Int) = pp at kA
    generalize ids[k] = x at c0 kA
    have KAA := Lib.hid kA
    clear hcell kA
    go_wp2_with fail
    refine KAA.out.mono ?_
    rintro e w2 ⟨rfl, g2⟩
    have HG2 := Lib.hid g2
    clear g2
    dsimp only
    cases q with
    | false =>
      have HR7 := Lib.hid (HBAD.out rfl)
      go_wp2
      go_ret
      exact ⟨congrArg (fun z => Ending.returned (Value.int .i64 z)) HR7.out.symm, HGW.out.trans HG2.out⟩
    | true =>
      have Hs := Lib.hid (HST.out rfl)
      go_wp2
      go_roundg (ids.length - (k + 1))
      case measure => omega
      case rel => exact ⟨k + 1, by omega, by omega, by go_num, (show Aside _ from BW.out.trans HG2.out), (show Aside _ from Hs.out)⟩
end Go.Proofs.YtfghbendiofbeaaGreatDoor

/- tree.path on a right tree: its plain form. No condition. -/
namespace Go.Proofs.YtfghbendiofbeaaGreatDoor
open Go.RowKit

/-- The units on the way from one to the top. -/
def upIds (l : List Br) : Nat → Br → List Int
  | 0, b => [b.id]
  | n + 1, b => if b.parent = 0 then [b.id] else match brFind l b.parent with
    | none => [b.id]
    | some p => b.id :: upIds l n p
/-- The path of a unit, from the top. -/
def pathF (l : List Br) (b : Br) : List Int := (upIds l l.length b).reverse
theorem upIds_top (l : List Br) (n : Nat) (b : Br) (h : b.parent = 0) : upIds l n b = [b.id] := by cases n <;> simp [upIds, h]
theorem upIds_up (l : List Br) (n : Nat) (b p : Br) (h : b.parent ≠ 0) (hp : brFind l b.parent = some p) : upIds l (n + 1) b = b.id :: upIds l n p := by simp [upIds, h, hp]
theorem upIds_len (l : List Br) : ∀ (n : Nat) (b : Br), (upIds l n b).length ≤ n + 1
  | 0, b => by simp [upIds]
  | n + 1, b => by
    unfold upIds
    split
    · simp
    · split
      · simp
      · rename_i p _
        have := upIds_len l n p
        simp only [List.length_cons]
        omega
open Go.Sort in
theorem grew_putI {w0 w1 : World} {blk off : Nat} (hb : w0.heap.size ≤ blk) (hg : Grew w0 w1) (d : Array Int) (n : Nat) : Grew w0 (putRow (Value.int .i64) (Sort.ahead w1 n) blk off d) := by
  have := grew_sortedI (off := off) hb hg d n #[]
  rwa [grow_empty] at this
open Go.Sort in
/-- slices.Reverse on a row of the call's own. -/
theorem rev_own (l : List Int) (w0 : World) (e : TypeId) (v : Value) (w : World) (hown : w.ownsRow w0.heap.size e 1 v l.length (l.flatMap oneI)) (hg : Grew w0 w) (hl : l.length ≤ 1000000) :
    Calls Tryz.prog 130 #[v] w fun en w' => en = .returned (.tuple #[]) ∧ SlI w' v l.reverse ∧ Grew w0 w' := by
  rcases Nat.eq_zero_or_pos l.length with h0 | h0
  · obtain rfl : l = [] := List.eq_nil_of_length_eq_zero h0
    have hv : ∃ A c, v = .slice A 0 c := by
      rcases hown.2 with ⟨rfl, _⟩ | ⟨g, cap, cur, rfl, _⟩
      · exact ⟨_, _, rfl⟩
      · exact ⟨_, _, rfl⟩
    obtain ⟨A, c, rfl⟩ := hv
    refine (Tryz.slices_Reverse_int_empty A c w).mono ?_
    rintro en w' ⟨rfl, rfl⟩
    exact ⟨rfl, Rd.of_own hown, hg⟩
  · obtain ⟨g, cap, rfl, hbg, hlt, hcap⟩ := own_form hown h0
    have hH := holdsI_of_own hown
    refine (Tryz.slices_Reverse_int g 0 cap l w hH (by omega)).mono ?_
    rintro en w' ⟨rfl, n, rfl⟩
    have hl2 : l.reverse.length = l.length := List.length_reverse
    have hh2 : Holds (Value.int .i64) (putRow (Value.int .i64) (Sort.ahead w n) g 0 l.reverse.toArray) g 0 l.reverse.toArray :=
      holds_putRow _ _ _ _ _ _ (holds_ahead _ _ _ _ _ _ hH) (by simp)
    refine ⟨rfl, ?_, grew_putI hbg hg _ _⟩
    have := slI_of_holds hh2 (by simp; omega) (by rw [hl2]; exact hcap) (own_max hown)
    rw [hl2] at this
    exact this
end Go.Proofs.YtfghbendiofbeaaGreatDoor

/- tree.path on a right tree, walked. The condition: the lists are short. -/
namespace Go.Proofs.YtfghbendiofbeaaGreatDoor
open Go.RowKit

theorem find_mem {l : List Br} {id : Int} {b : Br} (h : brFind l id = some b) : b ∈ l ∧ b.id = id := by
  refine ⟨List.mem_of_find?_eq_some h, ?_⟩
  have := List.find?_some h
  simpa using this
/-- Where the way stands. -/
def Way (l : List Br) (rest : List Int) (z : Int) : Prop := (rest = [] ∧ z = 0) ∨ ∃ y n, y ∈ l ∧ z = y.id ∧ rest = upIds l n y ∧ (deep l n y).isSome = true
theorem Way.step {l : List Br} (hP : ∀ i (h : i < l.length), BrPlaced l l[i]) {y : Br} {n : Nat} (hy : y ∈ l) (hd : (deep l n y).isSome = true) : ∃ rest, upIds l n y = y.id :: rest ∧ Way l rest y.parent := by
  by_cases h0 : y.parent = 0
  · exact ⟨[], upIds_top l n y h0, .inl ⟨rfl, h0⟩⟩
  · cases n with
    | zero => rw [deep_cycle l y h0] at hd; cases hd
    | succ n =>
      obtain ⟨j, hj, rfl⟩ := List.mem_iff_getElem.1 hy
      have := hP j hj
      unfold BrPlaced at this
      rw [if_neg h0] at this
      obtain ⟨p, hp, _⟩ := this
      obtain ⟨hpm, hpi⟩ := find_mem hp
      refine ⟨upIds l n p, upIds_up l n _ p h0 hp, .inr ⟨p, n, hpm, hpi.symm, rfl, ?_⟩⟩
      rw [deep_up l n _ p h0 hp] at hd
      simpa using hd
set_option maxHeartbeats 4000000 in
theorem tPathIn (rs : List Int) (l : List Br) (b0 : Br) (rv bv : Value) (w : World) (hr : SlI w rv rs) (hv : SlBr w bv l) (hf : FewBr l) (hT : RightT ⟨rs, l⟩) (hb0 : b0 ∈ l) :
    Calls Tryz.prog 100 #[.agg #[rv, bv], .int .i64 b0.id] w fun e w' => ∃ v, e = .returned v ∧ SlI w' v (pathF l b0) ∧ Grew w w' := by
  have KA := Lib.hid (fun id W (hW : Grew w W) => tAt l id rv bv W (hv.mono hW) hf.1 (cmpId_mono hT.2.1 id))
  have HAS := Lib.hid (fun id k hk hid => at_some hT.2.1 id k hk hid)
  have HST := Lib.hid (fun (y : Br) (n : Nat) (hy : y ∈ l) (hd : (deep l n y).isSome = true) => Way.step hT.2.2.1 hy hd)
  have HID : RowKit.Hid (∀ y ∈ l, y.id ≠ 0) := fun y hy => by
    obtain ⟨j, hj, rfl⟩ := List.mem_iff_getElem.1 hy
    have := within_t.1 (hT.2.1 j hj).1
    dsimp only at this
    intro h0
    rw [h0] at this
    omega
  have hstart : Way l (upIds l l.length b0) b0.id := by
    obtain ⟨j, hj, rfl⟩ := List.mem_iff_getElem.1 hb0
    obtain ⟨d, hd, _⟩ := hT.2.2.2.2.2 j hj
    exact .inr ⟨_, l.length, hb0, rfl, rfl, by rw [show deep l l.length l[j] = some d from hd]; rfl⟩
  have HS := Lib.hid hstart
  have hUl := upIds_len l l.length b0
  unfold pathF
  generalize upIds l l.length b0 = U at HS hUl ⊢
  generalize b0.id = z0 at HS
  have hll : l.length ≤ 256 := hT.1
  obtain ⟨Ab, cb, rfl, hlc, hc, hcr⟩ := hv.open_
  unfold maxLen at hc
  have HR := Lib.hid hcr
  obtain ⟨Ar, cr, rfl, -, -, -⟩ := hr.open_
  obtain ⟨i0, hi, hz0, hz1, hz2⟩ := info_parts cinfoI
  clear hv hr hf hT hb0 hstart hcr
  go_enter Tryz.func100, Tryz.ntmps100
  go_wp2
  go_loopg [1, 5] U.length (fun gg s1 s5 wr => ∃ (acc rest : List Int) (z : Int), acc ++ rest = U ∧ rest.length ≤ gg ∧ s1 = .int .i64 z ∧ Aside (Way l rest z) ∧ Aside (wr.ownsRow (w.alloc (.cells [.slice Ar rs.length cr, .slice Ab l.length cb].toArray 51)).heap.size 3 1 s5 acc.length (acc.flatMap oneI)) ∧ Aside (Grew (w.alloc (.cells [.slice Ar rs.length cr, .slice Ab l.length cb].toArray 51)) wr))
  case atStart => exact ⟨[], U, z0, rfl, by omega, rfl, (show Aside _ from HS.out), (show Aside _ from World.ownsRow_nil _ _ _ _), (show Aside _ from Grew.refl _)⟩
  case round =>
    obtain ⟨acc, rest, z, hU, hgk, rfl, WY, OW, BW⟩ := hrel
    have HGW := Lib.hid (((Grew.refl w).alloc _).trans BW.out)
    have HU := Lib.hid hU
    have hal : acc.length ≤ U.length := by rw [← hU, List.length_append]; omega
    clear hU
    rcases WY.out with ⟨rfl, rfl⟩ | ⟨y, n, hy, rfl, hrest, hd⟩
    · have hacc : acc = U := by simpa using HU.out
      have KR := Lib.hid (rev_own acc _ _ _ wr OW.out BW.out (by omega))
      rw [hacc] at KR
      clear hacc
      go_wp2_with fail
      refine KR.out.mono ?_
      rintro e w2 ⟨rfl, hs2, g2⟩
      have HS2 := Lib.hid hs2
      have HG2 := Lib.hid (((Grew.refl w).alloc _).trans g2)
      clear hs2 g2
      dsimp only
      go_wp2
      go_ret
      exact ⟨_, rfl, HS2.out, HG2.out⟩
    · obtain ⟨rest', hr1, WY2⟩ := HST.out y n hy hd
      obtain ⟨k, hk, hky⟩ := List.mem_iff_getElem.1 hy
      obtain ⟨hps, hht⟩ := HAS.out y.id k hk (by rw [hky])
      have kA := fun W hW => KA.out y.id W hW
      rw [hps, hht] at kA
      have hne : (y.id != 0) = true := by simpa using HID.out y hy
      have hUU : (acc ++ [y.id]) ++ rest' = U := by rw [← HU.out, hrest, hr1]; simp
      have hrl : rest'.length < rest.length := by rw [hrest, hr1]; simp
      have HWY := Lib.hid WY2
      have HUU := Lib.hid hUU
      have hkz : (k : Int) < (l.length : Int) := by omega
      have h0z : (0 : Int) ≤ (k : Int) := by omega
      obtain ⟨b, off, rfl, hb, hcell⟩ := HR.out (by omega)
      obtain ⟨kvv, -, hcl⟩ := hcell k hk
      rw [hky] at hcl
      have HCL := Lib.hid hcl
      generalize y.id = yi at kA hne HUU HCL
      generalize y.parent = yp at HWY HCL
      have KAA := Lib.hid kA
      clear kA hcell hcl hrest hr1 hps hht hUU WY2 hd hy WY hky
      go_wp2_with (at_builtin; refine app1 rfl _ _ 43 rfl (w.alloc (.cells [.slice Ar rs.length cr, .slice (some ⟨b, off, none⟩) l.length cb].toArray 51)) 3 i0 (.int .i64 0) 1 8 Tryz.underlying43 hi hz0 hz1 hz2 rfl (by omega) _ _ _ (by rfl) wr OW.out BW.out [.int .i64 yi] rfl rfl rfl (by unfold maxLen; omega) (by omega) ?_; intro v8 w8 hown8 hg8; have OW8 := Lib.hid hown8; have BW8 := Lib.hid hg8; have b0 := new_cell hg8 0 _ rfl; have b1 := new_cell hg8 1 _ rfl; clear hown8 hg8)
      refine (KAA.out _ (((Grew.refl w).alloc _).trans BW8.out)).mono ?_
      rintro e w9 ⟨rfl, g9⟩
      have OW9 := Lib.hid (own_later OW8.out g9)
      have BW9 := Lib.hid (BW8.out.trans g9)
      have d1 := new_cell BW9.out 1 _ rfl
      obtain ⟨-, e1, -⟩ := HCL.out w9 (((Grew.refl w).alloc _).trans BW9.out)
      clear g9 b0 b1
      dsimp only
      go_wp2
      go_roundg rest'.length
      case measure => omega
      case rel => exact ⟨acc ++ [yi], rest', yp, HUU.out, by omega, rfl, (show Aside _ from HWY.out), (show Aside _ by rw [List.flatMap_append, List.length_append]; exact OW9.out), (show Aside _ from BW9.out)⟩
end Go.Proofs.YtfghbendiofbeaaGreatDoor

/- tree.Path on a right tree, walked. The conditions: the library's own variables hold what they must; the lists are short. -/
namespace Go.Proofs.YtfghbendiofbeaaGreatDoor
open Go.RowKit

def pathR (l : List Br) (id : Int) : List Int × Int := match brFind l id with
  | none => ([], 7)
  | some b => (pathF l b, 0)
set_option maxHeartbeats 2000000 in
theorem tPath (rs : List Int) (l : List Br) (id : Int) (rv bv : Value) (w : World) (hE : Env w) (hr : SlI w rv rs) (hv : SlBr w bv l) (hf : FewBr l) (hrl : rs.length ≤ 1000000) (hT : RightT ⟨rs, l⟩) :
    Calls Tryz.prog 71 #[.agg #[rv, bv], .int .i64 id] w fun e w' => ∃ v, e = .returned (.tuple #[v, .int .i64 (pathR l id).2]) ∧ SlI w' v (pathR l id).1 ∧ Grew w w' := by
  have hK := fun W kv (hW : Grew w W) (hk : SlI W kv [id]) => tKnown rs l [id] rv bv kv W (hE.mono hW) (hr.mono hW) (hv.mono hW) hk hf hrl hT
  have hfr : ∀ W : World, SlI (W.alloc (.cells #[.int .i64 id] 3)) (.slice (some ⟨W.heap.size, 0, none⟩) 1 1) [id] := fun W => Rd.fresh W _ 1 1 [.int .i64 id] rfl (by decide)
  have HFR := Lib.hid hfr
  clear hfr
  cases ho : brFind l id with
  | none =>
    have hp : pathR l id = ([], 7) := by simp [pathR, ho]
    have hkn : knownF l [id] = 7 := by simp [knownF, ho]
    rw [hp]
    rw [hkn] at hK
    have KK := Lib.hid hK
    clear hK hp hkn ho hE hr hv hf hrl hT
    dsimp only
    go_enter Tryz.func71, Tryz.ntmps71
    go_wp2_with fail
    refine (KK.out _ _ (((Grew.refl w).alloc _).alloc _) (by have := HFR.out (w.alloc (.cells #[rv, bv] 51)); simpa using this)).mono ?_
    rintro e w1 ⟨rfl, g1⟩
    dsimp only
    go_wp2
    go_ret2
    exact ⟨_, rfl, SlI.nil _, (((Grew.refl w).alloc _).alloc _).trans g1⟩
  | some b =>
    have hp : pathR l id = (pathF l b, 0) := by simp [pathR, ho]
    have hkn : knownF l [id] = 0 := by simp [knownF, ho]
    obtain ⟨hbm, hbi⟩ := find_mem ho
    have hPI := fun W (hW : Grew w W) => tPathIn rs l b rv bv W (hr.mono hW) (hv.mono hW) hf hT hbm
    rw [hp]
    rw [hkn] at hK
    rw [hbi] at hPI
    have KK := Lib.hid hK
    have KP := Lib.hid hPI
    generalize pathF l b = U at KP
    clear hK hPI hp hkn ho hE hr hv hf hrl hT hbm hbi
    dsimp only
    go_enter Tryz.func71, Tryz.ntmps71
    go_wp2_with fail
    refine (KK.out _ _ (((Grew.refl w).alloc _).alloc _) (by have := HFR.out (w.alloc (.cells #[rv, bv] 51)); simpa using this)).mono ?_
    rintro e w1 ⟨rfl, g1⟩
    have G1 : Grew (w.alloc (.cells [rv, bv].toArray 51)) w1 := ((Grew.refl _).alloc _).trans g1
    have b0 := new_cell G1 0 _ rfl
    have b1 := new_cell G1 1 _ rfl
    have HW1 := Lib.hid (((Grew.refl w).alloc _).trans G1)
    clear g1 G1
    dsimp only
    go_wp2_with fail
    refine (KP.out _ HW1.out).mono ?_
    rintro e w2 ⟨v2, rfl, hs2, g2⟩
    have HS2 := Lib.hid hs2
    clear hs2
    dsimp only
    go_wp2
    go_ret2
    exact ⟨_, rfl, HS2.out, HW1.out.trans g2⟩
end Go.Proofs.YtfghbendiofbeaaGreatDoor
