/- Lemmas on what the functions of the program and of the library compute: CompI, U1, PlainV, PlainW, PlainX, Shelf2. The conditions stand at each. -/
import Derived.Test.YtfghbendiofbeaaGreatDoorQ14
import Derived.Test.YtfghbendiofbeaaGreatDoorQ10
import Derived.Test.YtfghbendiofbeaaGreatDoorQ11
import Derived.Test.YtfghbendiofbeaaGreatDoorQ2
import Derived.Test.YtfghbendiofbeaaGreatDoorQ15
import Derived.Shelf.Small.Bits
import Derived.Shelf.Small.Wraps
import Derived.Shelf.LaysM
import Derived.Shelf.Strconv.Itoa3
import Derived.Shelf.Strings.Search3
import Derived.Shelf.Sort.Plain
import Derived.Shelf.Strings.FuncGrows
import Derived.Shelf.Slices.Reverse
import Derived.Ground.Names2Prog
import Derived.Shelf.Slices.CompactI
import Derived.Shelf.Slices.SearchI
import Derived.Shelf.Slices.In.SortNone
import Derived.Test.YtfghbendiofbeaaGreatDoorProg
/- slices.Compact at numbers, on a row of the call's own. No condition but the sizes that a slice can have. -/
namespace Go.Proofs.YtfghbendiofbeaaGreatDoor
open Go.RowKit Go.Sort

theorem comp_len (l : List Int) : (Lib.compact l).length ≤ l.length := by
  unfold Lib.compact Lib.compactUpTo
  rw [List.length_map]
  have := List.length_filter_le (Lib.keeps l.toArray) (List.range l.length)
  simpa using this
theorem compact_own (l : List Int) (w0 : World) (e : TypeId) (v : Value) (w : World) (hown : w.ownsRow w0.heap.size e 1 v l.length (l.flatMap oneI)) (hg : Grew w0 w) (hl : l.length ≤ 1000000) (hcl : (Lib.compact l).length ≤ l.length) :
    Calls Tryz.prog 66 #[v] w fun en w' => ∃ v', en = .returned v' ∧ SlI w' v' (Lib.compact l) ∧ Grew w0 w' := by
  rcases Nat.eq_zero_or_pos l.length with h0 | h0
  · obtain rfl : l = [] := List.eq_nil_of_length_eq_zero h0
    have hv : ∃ A c, v = .slice A 0 c := by
      rcases hown.2 with ⟨rfl, _⟩ | ⟨g, cap, cur, rfl, _⟩
      · exact ⟨_, _, rfl⟩
      · exact ⟨_, _, rfl⟩
    obtain ⟨A, c, rfl⟩ := hv
    refine (Tryz.slices_Compact_int_empty A c w).mono ?_
    rintro en w' ⟨rfl, rfl⟩
    have hc0 : Lib.compact ([] : List Int) = [] := List.eq_nil_of_length_eq_zero (by simpa using hcl)
    refine ⟨_, rfl, ?_, hg⟩
    rw [hc0]
    exact Rd.of_own hown
  · obtain ⟨g, cap, rfl, hbg, hlt, hcap⟩ := own_form hown h0
    have hH := holdsI_of_own hown
    refine (Tryz.slices_Compact_int g 0 cap l w hH (by omega) hcap).mono ?_
    rintro en w' ⟨rfl, n, rfl⟩
    have hfl : (Lib.compact l ++ List.replicate (l.length - (Lib.compact l).length) (0 : Int)).length = l.length := by simp; omega
    have hh2 := holds_putRow (Value.int .i64) (Sort.ahead w n) g 0 l.toArray (Lib.compact l ++ List.replicate (l.length - (Lib.compact l).length) (0 : Int)).toArray (holds_ahead _ _ _ _ _ _ hH) (by simpa using hfl)
    have hs := slI_of_holds hh2 (by simp; omega) (by rw [hfl]; exact hcap) (own_max hown)
    refine ⟨_, rfl, ?_, grew_putI hbg hg _ _⟩
    have := Rd.take (k := 1) (f := oneI) (fun _ => rfl) (by omega) (show Rd _ 1 _ (_) from hs) (Lib.compact l).length (by simp)
    rw [List.take_left] at this
    exact this
end Go.Proofs.YtfghbendiofbeaaGreatDoor

/- relation.Units, walked. The conditions: the library's own variables hold what they must; the lists are short. -/
namespace Go.Proofs.YtfghbendiofbeaaGreatDoor
open Go.RowKit

def unitOn (id day : Int) (x : Rel) : Bool := x.auth == id && inF x.fr x.un day
def unitsIn (l : List Rel) (id day : Int) : List Int := (l.filter (unitOn id day)).map Rel.unit
def unitsF (a : List Auth) (l : List Rel) (id day : Int) : List Int × Int :=
  if asksF a l ≠ 0 then ([], asksF a l) else if (auFind a id).isSome = false then ([], 7) else if within day 0 1048575 = false then ([], 2) else (Lib.compact (unitsIn l id day), 0)
theorem unitsIn_take (l : List Rel) (id day : Int) (k : Nat) (h : k < l.length) : unitsIn (l.take (k + 1)) id day = unitsIn (l.take k) id day ++ if unitOn id day l[k] = true then [l[k].unit] else [] := by
  unfold unitsIn
  rw [List.take_succ_eq_append_getElem h, List.filter_append, List.map_append]
  congr 1
  cases hc : unitOn id day l[k] <;> simp [hc]
theorem unitsIn_len (l : List Rel) (id day : Int) : (unitsIn l id day).length ≤ l.length := by
  unfold unitsIn
  rw [List.length_map]
  exact List.length_filter_le _ _
set_option maxHeartbeats 4000000 in
theorem rUnits (a : List Auth) (l : List Rel) (id day : Int) (av lv : Value) (w : World) (hE : Env w) (ha : SlAu w av a) (hf : FewAu a) (hl : SlR w lv l) (hll : l.length ≤ 1000000) :
    Calls Tryz.prog 26 #[av, lv, .int .i64 id, .int .i64 day] w (RetRow (unitsF a l id day) w) := by
  have kA := rAsks a l av lv w hE ha hf hl
  have kF := fun W (hW : Grew w W) => auFind_any a id av W (ha.mono hW) hf
  have kW := rWithin day 0 1048575
  unfold unitsF
  generalize asksF a l = q0 at kA ⊢
  generalize auFind a id = o at kF ⊢
  generalize within day 0 1048575 = q2 at kW ⊢
  have KA := Lib.hid kA
  have KF := Lib.hid kF
  have KW := Lib.hid kW
  obtain ⟨A, c, rfl, hlc, hc, hr⟩ := hl.open_
  unfold maxLen at hc
  have HR := Lib.hid hr
  clear kA kF kW hE ha hf hl hr
  by_cases h0 : q0 = 0
  case neg =>
    have hz : (q0 != 0) = true := by simpa using h0
    rw [if_pos h0]
    clear h0
    go_enter Tryz.func26, Tryz.ntmps26
    go_wp2_with fail
    refine KA.out.mono ?_
    rintro e w1 ⟨rfl, g1⟩
    dsimp only
    go_wp2
    go_ret2
    exact ⟨_, rfl, SlI.nil _, g1⟩
  subst h0
  simp only [ne_eq, not_true_eq_false, if_false]
  cases hb : o.isSome
  · simp only [if_true]
    go_enter Tryz.func26, Tryz.ntmps26
    go_wp2_with fail
    refine KA.out.mono ?_
    rintro e w1 ⟨rfl, g1⟩
    dsimp only
    go_wp2_with fail
    refine (KF.out _ g1).mono ?_
    rintro e w2 ⟨A1, n1, d1, A2, n2, d2, rfl, g2⟩
    rw [hb]
    have HG2 := Lib.hid (g1.trans g2)
    clear g1 g2
    dsimp only
    go_wp2
    go_ret2
    refine ⟨_, rfl, SlI.nil _, ?_⟩
    exact HG2.out.alloc _
  simp only [Bool.true_eq_false, if_false]
  cases q2
  · simp only [if_true]
    go_enter Tryz.func26, Tryz.ntmps26
    go_wp2_with fail
    refine KA.out.mono ?_
    rintro e w1 ⟨rfl, g1⟩
    dsimp only
    go_wp2_with fail
    refine (KF.out _ g1).mono ?_
    rintro e w2 ⟨A1, n1, d1, A2, n2, d2, rfl, g2⟩
    rw [hb]
    have HG2 := Lib.hid (g1.trans g2)
    clear g1 g2
    dsimp only
    go_wp2_with fail
    refine (KW.out _).mono ?_
    rintro e w3 ⟨rfl, rfl⟩
    dsimp only
    go_wp2
    go_ret2
    refine ⟨_, rfl, SlI.nil _, ?_⟩
    exact HG2.out.alloc _
  simp only [Bool.true_eq_false, if_false]
  have HT := Lib.hid (unitsIn_take l id day)
  have HL := Lib.hid (fun k => unitsIn_len (l.take k) id day)
  obtain ⟨i0, hi, hz0, hz1, hz2⟩ := info_parts cinfoI
  go_enter Tryz.func26, Tryz.ntmps26
  go_wp2_with fail
  refine KA.out.mono ?_
  rintro e w1 ⟨rfl, g1⟩
  dsimp only
  go_wp2_with fail
  refine (KF.out _ g1).mono ?_
  rintro e w2 ⟨A1, n1, d1, A2, n2, d2, rfl, g2⟩
  rw [hb]
  have HG2 := Lib.hid (g1.trans g2)
  clear g1 g2
  dsimp only
  go_wp2_with fail
  refine (KW.out _).mono ?_
  rintro e w3 ⟨rfl, rfl⟩
  dsimp only
  go_wp2
  go_loopg [13, 35] l.length (fun gg s13 s35 wr => ∃ kk : Nat, kk ≤ l.length ∧ l.length - kk ≤ gg ∧ s35 = .int .i64 kk ∧ Aside (wr.ownsRow w.heap.size 3 1 s13 (unitsIn (l.take kk) id day).length ((unitsIn (l.take kk) id day).flatMap oneI)) ∧ Aside (Grew w wr))
  case atStart => exact ⟨0, by omega, by omega, rfl, (show Aside _ from World.ownsRow_nil _ _ _ _), (show Aside _ from HG2.out.alloc _)⟩
  case round =>
    obtain ⟨kk, hkk, hgk, rfl, OW, BW⟩ := hrel
    by_cases hlt : kk < l.length
    case neg =>
      have hltz : ¬ (kk : Int) < (l.length : Int) := by omega
      obtain rfl : kk = l.length := by omega
      rw [List.take_length] at OW
      have KC := Lib.hid (compact_own _ w _ _ wr OW.out BW.out (Nat.le_trans (unitsIn_len l id day) hll) (comp_len _))
      go_wp2_with fail
      refine KC.out.mono ?_
      rintro e w4 ⟨v4, rfl, hs4, g4⟩
      have HS4 := Lib.hid hs4
      clear hs4
      dsimp only
      go_wp2
      go_ret2
      exact ⟨_, rfl, HS4.out, g4⟩
    have hltz : (kk : Int) < (l.length : Int) := by omega
    obtain ⟨b, off, rfl, hb, hcell⟩ := HR.out (by omega)
    obtain ⟨c0, c1, c2, c3, c4⟩ := hcell wr BW.out kk hlt
    have ht := HT.out kk hlt
    have hlen := HL.out kk
    rw [List.length_take] at hlen
    generalize hU2 : unitsIn (l.take (kk + 1)) id day = U2 at ht
    have HU2 := Lib.hid hU2
    generalize unitsIn (l.take kk) id day = U at ht hlen OW
    unfold unitOn at ht
    generalize l[kk] = y at ht c0 c1 c2 c3 c4
    obtain ⟨yu, yr, ya, yf, yn⟩ := y
    dsimp only at ht c0 c1 c2 c3 c4
    have kI := rIn yf yn day
    generalize inF yf yn day = q at kI ht
    have KI := Lib.hid kI
    clear kI hU2
    have HRel := Lib.hid (fun (V X : Value) (W : World) (O : W.ownsRow w.heap.size 3 1 X U2.length (U2.flatMap oneI)) (G : Grew w W) (hV : V = .int .i64 (kk + 1 : Nat)) => (⟨kk + 1, by omega, by omega, hV, (show Aside _ from by rw [HU2.out]; exact O), (show Aside _ from G)⟩ : ∃ k2 : Nat, k2 ≤ l.length ∧ l.length - k2 ≤ l.length - (kk + 1) ∧ V = .int .i64 k2 ∧ Aside (W.ownsRow w.heap.size 3 1 X (unitsIn (l.take k2) id day).length ((unitsIn (l.take k2) id day).flatMap oneI)) ∧ Aside (Grew w W)))
    have HT2 := Lib.hid ht
    clear ht hcell
    cases hq1 : (ya == id)
    · have hE : U2 = U := by rw [HT2.out, hq1]; simp
      subst hE
      go_wp2
      go_roundg (l.length - (kk + 1))
      case measure => omega
      case rel => exact HRel.out _ _ _ (OW.out.alloc _) (BW.out.alloc _) (by go_num)
    cases q
    · have hE : U2 = U := by rw [HT2.out, hq1]; simp
      subst hE
      go_wp2_with fail
      refine (KI.out _).mono ?_
      rintro e w4 ⟨rfl, g4⟩
      have HG4 := Lib.hid g4
      clear g4
      dsimp only
      go_wp2
      go_roundg (l.length - (kk + 1))
      case measure => omega
      case rel => exact HRel.out _ _ _ (own_later (OW.out.alloc _) HG4.out) ((BW.out.alloc _).trans HG4.out) (by go_num)
    · have HE : RowKit.Hid (U2 = U ++ [yu]) := by
        show U2 = U ++ [yu]
        rw [HT2.out, hq1]; simp
      go_wp2_with fail
      refine (KI.out _).mono ?_
      rintro e w4 ⟨rfl, g4⟩
      have e0 := new_cell g4 0 _ rfl
      have OW4 := Lib.hid (own_later (OW.out.alloc _) g4)
      have BW4 := Lib.hid ((BW.out.alloc _).trans g4)
      clear g4
      dsimp only
      have hm : U.length + 1 ≤ 1000001 := by omega
      go_wp2_with (at_builtin; refine app1H rfl _ _ 43 rfl w 3 i0 (.int .i64 0) 1 8 Tryz.underlying43 hi hz0 hz1 hz2 rfl (by omega) _ _ _ (by rfl) w4 OW4.out BW4.out w4.heap.size rfl [.int .i64 yu] (by rfl) rfl rfl (by unfold maxLen; omega) (by omega) ?_; intro v8 w8 hown8 hg8)
      have OW8 := Lib.hid hown8
      have BW8 := Lib.hid hg8
      clear hown8 hg8
      go_wp2
      go_roundg (l.length - (kk + 1))
      case measure => omega
      case rel => exact HRel.out _ _ _ (by rw [HE.out, List.flatMap_append, List.length_append]; exact OW8.out) BW8.out (by go_num)
end Go.Proofs.YtfghbendiofbeaaGreatDoor

/- Adding to and ending in a right list of relations, plainly. No condition. -/
namespace Go.Proofs.YtfghbendiofbeaaGreatDoor
open Go.RowKit

def meetsR (x y : Rel) : Bool := sameR x y && (decide (x.fr < y.un) && decide (y.fr < x.un))
def placeR (l : List Rel) (x : Rel) : Nat := passes (fun y => decide (orderR y x < 0)) l
def insR (l : List Rel) (x : Rel) : List Rel := l.take (placeR l x) ++ [x] ++ l.drop (placeR l x)
def addR (a : List Auth) (l : List Rel) (x : Rel) : List Rel × Int :=
  if asksF a l ≠ 0 then ([], asksF a l) else if relAlone a x ≠ 0 then ([], relAlone a x) else if l.any (meetsR x) = true then ([], 6) else if 256 ≤ l.length then ([], 8) else (insR l x, 0)
def ordR (p q : Rel) : Prop := ltR p q ∧ p.fr < p.un ∧ q.fr < q.un ∧ (sameR p q = true → p.un ≤ q.fr)
theorem same_t {x y : Rel} : sameR x y = true ↔ x.unit = y.unit ∧ x.role = y.role ∧ x.auth = y.auth := by simp [sameR]
theorem ordR_trans {a b c : Rel} (h1 : ordR a b) (h2 : ordR b c) : ordR a c := by
  obtain ⟨l1, a1, b1, s1⟩ := h1
  obtain ⟨l2, _, c1, s2⟩ := h2
  refine ⟨ltR_trans l1 l2, a1, c1, fun h => ?_⟩
  rw [same_t] at h s1 s2
  unfold ltR at l1 l2
  have e1 : a.unit = b.unit := by omega
  have e2 : a.role = b.role := by omega
  have e3 : a.auth = b.auth := by omega
  have := s1 ⟨e1, e2, e3⟩
  have := s2 (by omega)
  omega
theorem alone_span {a : List Auth} {x : Rel} (h : relAlone a x = 0) : (1 ≤ x.unit ∧ x.unit ≤ 1073741824) ∧ (1 ≤ x.role ∧ x.role ≤ 4) ∧ (0 ≤ x.fr ∧ x.fr < x.un ∧ x.un ≤ 1048576) ∧ whoFault (auFind a x.auth) x.role x.fr x.un = 0 := by
  unfold relAlone at h
  split at h
  · rename_i hc
    simp only [Bool.and_eq_true, within_t, spans_t] at hc
    exact ⟨hc.1, hc.2.1, hc.2.2, h⟩
  · simp at h
theorem right_pw {a : List Auth} {l : List Rel} (h : RightR a l) : l.Pairwise ordR := by
  refine adj_pairwise (r := ordR) (fun _ _ _ => ordR_trans) l (fun i hi => ?_)
  have h1 := alone_span (h.2.2.1 _ (List.getElem_mem (show i < l.length by omega)))
  have h2 := alone_span (h.2.2.1 _ (List.getElem_mem hi))
  exact ⟨List.pairwise_iff_getElem.1 h.2.2.2.1 i (i + 1) (by omega) hi (by omega), h1.2.2.1.2.1, h2.2.2.1.2.1, h.2.2.2.2 i hi⟩
theorem right_of_pw {a : List Auth} {l : List Rel} (h1 : AuthRight a) (h2 : l.length ≤ 256) (h3 : ∀ x ∈ l, relAlone a x = 0) (h4 : l.Pairwise ordR) : RightR a l :=
  ⟨h1, h2, h3, h4.imp fun h => h.1, fun i hi => (List.pairwise_iff_getElem.1 h4 i (i + 1) (by omega) hi (by omega)).2.2.2⟩
theorem place_le (l : List Rel) (x : Rel) : placeR l x ≤ l.length := by
  unfold placeR passes
  exact (List.takeWhile_prefix _).length_le
theorem tw_mem {α : Type} {p : α → Bool} {y : α} : ∀ {l : List α}, y ∈ l.takeWhile p → p y = true
  | [], h => by simp at h
  | x :: l, h => by
    rw [List.takeWhile_cons] at h
    split at h
    · rename_i hx
      rcases List.mem_cons.1 h with rfl | h
      · exact hx
      · exact tw_mem h
    · simp at h
theorem take_place (l : List Rel) (x : Rel) : ∀ y ∈ l.take (placeR l x), ltR y x := by
  intro y hy
  have h1 : l.take (placeR l x) = l.takeWhile (fun y => decide (orderR y x < 0)) := by
    unfold placeR passes
    exact (List.prefix_iff_eq_take.1 (List.takeWhile_prefix _)).symm
  rw [h1] at hy
  have := tw_mem hy
  rw [decide_eq_true_eq, orderR_lt] at this
  exact this
theorem drop_place {l : List Rel} (hp : l.Pairwise ltR) (x : Rel) : ∀ y ∈ l.drop (placeR l x), ¬ ltR y x := by
  intro y hy hlt
  obtain ⟨j, hj, rfl⟩ := List.mem_iff_getElem.1 hy
  rw [List.getElem_drop] at hlt
  have hk : placeR l x < l.length := by simp at hj; omega
  have h0 : ltR l[placeR l x] x := by
    rcases Nat.eq_zero_or_pos j with e | e
    · subst e; exact hlt
    · exact ltR_trans (List.pairwise_iff_getElem.1 hp _ _ hk (by simp at hj; omega) (by omega)) hlt
  have h1 : (l.takeWhile fun y => decide (orderR y x < 0)).length < l.length := hk
  have h2 := List.takeWhile_append_dropWhile (p := fun y => decide (orderR y x < 0)) (l := l)
  have h3 : (l.dropWhile fun y => decide (orderR y x < 0)) ≠ [] := by
    intro e
    rw [e, List.append_nil] at h2
    rw [h2] at h1
    omega
  have h4 := List.head_dropWhile_not (fun y => decide (orderR y x < 0)) h3
  have h5 : (l.dropWhile fun y => decide (orderR y x < 0)).head h3 = l[placeR l x] := by
    have e0 : (l.takeWhile (fun y => decide (orderR y x < 0)) ++ l.dropWhile (fun y => decide (orderR y x < 0)))[(l.takeWhile (fun y => decide (orderR y x < 0))).length]? = some ((l.dropWhile fun y => decide (orderR y x < 0)).head h3) := by
      rw [List.getElem?_append_right (Nat.le_refl _), Nat.sub_self]
      exact List.head?_eq_getElem? ▸ List.head?_eq_some_head h3
    rw [h2] at e0
    have e : l[placeR l x]? = some ((l.dropWhile fun y => decide (orderR y x < 0)).head h3) := e0
    rw [List.getElem?_eq_getElem hk] at e
    exact (Option.some.inj e).symm
  rw [h5] at h4
  rw [← orderR_lt] at h0
  simp at h4
  omega
theorem mem_insR (l : List Rel) (x y : Rel) : y ∈ insR l x ↔ y = x ∨ y ∈ l := by
  unfold insR
  conv => rhs; rw [← List.take_append_drop (placeR l x) l]
  simp only [List.mem_append, List.mem_cons, List.not_mem_nil, or_false]
  constructor
  · rintro ((h | h) | h)
    · exact .inr (.inl h)
    · exact .inl h
    · exact .inr (.inr h)
  · rintro (h | h | h)
    · exact .inl (.inr h)
    · exact .inl (.inl h)
    · exact .inr h
theorem len_insR (l : List Rel) (x : Rel) : (insR l x).length = l.length + 1 := by
  have := place_le l x
  unfold insR
  simp
  omega
theorem not_meets {l : List Rel} {x y : Rel} (h : l.any (meetsR x) = false) (hy : y ∈ l) : sameR x y = true → ¬ (x.fr < y.un ∧ y.fr < x.un) := by
  intro hs hm
  have := List.any_eq_false.1 h y hy
  simp [meetsR, hs, hm.1, hm.2] at this
theorem add_right {a : List Auth} {l : List Rel} {x : Rel} (hR : RightR a l) (hx : relAlone a x = 0) (hm : l.any (meetsR x) = false) (hl : l.length < 256) : RightR a (insR l x) := by
  have hpw := right_pw hR
  have hsp := alone_span hx
  refine right_of_pw hR.1 (by rw [len_insR]; omega) (fun y hy => ?_) ?_
  · rcases (mem_insR l x y).1 hy with rfl | hy
    · exact hx
    · exact hR.2.2.1 y hy
  have hsplit := List.take_append_drop (placeR l x) l
  have hpw2 := hpw
  rw [← hsplit] at hpw2
  obtain ⟨p1, p2, p3⟩ := List.pairwise_append.1 hpw2
  have hT : ∀ y ∈ l.take (placeR l x), ordR y x := fun y hy => by
    have hyl := List.mem_of_mem_take hy
    have h1 := take_place l x y hy
    have h2 := alone_span (hR.2.2.1 y hyl)
    refine ⟨h1, h2.2.2.1.2.1, hsp.2.2.1.2.1, fun hs => ?_⟩
    rw [same_t] at hs
    have hn := not_meets hm hyl (same_t.2 ⟨hs.1.symm, hs.2.1.symm, hs.2.2.symm⟩)
    unfold ltR at h1
    omega
  have hD : ∀ y ∈ l.drop (placeR l x), ordR x y := fun y hy => by
    have hyl := List.mem_of_mem_drop hy
    have h1 := drop_place hR.2.2.2.1 x y hy
    have h2 := alone_span (hR.2.2.1 y hyl)
    have hlt : ltR x y := by
      by_cases hs : sameR x y = true
      · have hn := not_meets hm hyl hs
        rw [same_t] at hs
        unfold ltR at h1 ⊢
        omega
      · rw [same_t] at hs
        unfold ltR at h1 ⊢
        omega
    refine ⟨hlt, hsp.2.2.1.2.1, h2.2.2.1.2.1, fun hs => ?_⟩
    have hn := not_meets hm hyl hs
    rw [same_t] at hs
    unfold ltR at hlt
    omega
  unfold insR
  rw [List.append_assoc]
  refine List.pairwise_append.2 ⟨p1, List.pairwise_append.2 ⟨List.pairwise_singleton _ _, p2, fun y hy z hz => ?_⟩, fun y hy z hz => ?_⟩
  · simp at hy
    subst hy
    exact hD z hz
  · rcases List.mem_append.1 hz with hz | hz
    · simp at hz
      subst hz
      exact hT y hy
    · exact p3 y hy z hz
theorem relOn_t {u r d : Int} {x : Rel} : relOn u r d x = true ↔ x.unit = u ∧ x.role = r ∧ x.fr ≤ d ∧ d < x.un := by simp [relOn, inF]
/-- The holders behind an addition that does not hold there. -/
theorem add_other (l : List Rel) (x : Rel) (u r d : Int) (h : relOn u r d x = false) : holdersF (insR l x) u r d = holdersF l u r d := by
  refine asc_ext (holdersF_asc _ _ _ _) (holdersF_asc _ _ _ _) fun n => ?_
  rw [mem_holdersF, mem_holdersF]
  constructor
  · rintro ⟨y, hy, h1, h2⟩
    rcases (mem_insR l x y).1 hy with rfl | hy
    · rw [h] at h1; cases h1
    · exact ⟨y, hy, h1, h2⟩
  · rintro ⟨y, hy, h1, h2⟩
    exact ⟨y, (mem_insR l x y).2 (.inr hy), h1, h2⟩
theorem add_there {l : List Rel} {x : Rel} {u r d : Int} (h : relOn u r d x = true) : x.auth ∈ holdersF (insR l x) u r d := (mem_holdersF _ _ _ _ _).2 ⟨x, (mem_insR l x x).2 (.inl rfl), h, rfl⟩
theorem add_new {l : List Rel} {x : Rel} {u r d : Int} (hm : l.any (meetsR x) = false) (h : relOn u r d x = true) : x.auth ∉ holdersF l u r d := by
  intro hc
  obtain ⟨y, hy, h1, h2⟩ := (mem_holdersF _ _ _ _ _).1 hc
  rw [relOn_t] at h h1
  exact not_meets hm hy (same_t.2 (by omega)) (by omega)
theorem asc_filter {l : List Int} (h : Asc l) (p : Int → Bool) : Asc (l.filter p) := List.Pairwise.filter p h
theorem add_rest {l : List Rel} {x : Rel} {u r d : Int} (hm : l.any (meetsR x) = false) (h : relOn u r d x = true) : holdersF l u r d = (holdersF (insR l x) u r d).filter (fun n => !(n == x.auth)) := by
  refine asc_ext (holdersF_asc _ _ _ _) (asc_filter (holdersF_asc _ _ _ _) _) fun n => ?_
  have hn := add_new hm h
  rw [List.mem_filter, mem_holdersF, mem_holdersF]
  constructor
  · rintro ⟨y, hy, h1, h2⟩
    refine ⟨⟨y, (mem_insR l x y).2 (.inr hy), h1, h2⟩, ?_⟩
    have : n ≠ x.auth := fun e => hn ((mem_holdersF _ _ _ _ _).2 ⟨y, hy, h1, h2.trans e⟩)
    simpa using this
  · rintro ⟨⟨y, hy, h1, h2⟩, h3⟩
    rcases (mem_insR l x y).1 hy with rfl | hy
    · simp [h2] at h3
    · exact ⟨y, hy, h1, h2⟩

/-! ending -/
def cutR (x : Rel) (day : Int) : Rel := ⟨x.unit, x.role, x.auth, x.fr, day⟩
def endR (a : List Auth) (l : List Rel) (x : Rel) (day : Int) : List Rel × Int :=
  if asksF a l ≠ 0 then ([], asksF a l) else if l[placeR l x]? ≠ some x then ([], 7) else if day ≤ x.fr ∨ x.un < day then ([], 2) else (l.set (placeR l x) (cutR x day), 0)
theorem cut_alone {a : List Auth} {x : Rel} {day : Int} (h : relAlone a x = 0) (h1 : x.fr < day) (h2 : day ≤ x.un) : relAlone a (cutR x day) = 0 := by
  obtain ⟨s1, s2, s3, s4⟩ := alone_span h
  unfold relAlone
  have hc : (within (cutR x day).unit 1 1073741824 && (within (cutR x day).role 1 4 && spansF (cutR x day).fr (cutR x day).un)) = true := by
    simp only [Bool.and_eq_true, within_t, spans_t, cutR]
    omega
  rw [if_pos hc]
  unfold whoFault at s4 ⊢
  simp only [cutR]
  cases ho : auFind a x.auth with
  | none => rw [ho] at s4; simp at s4
  | some y =>
    rw [ho] at s4
    simp only at s4 ⊢
    split at s4
    · simp at s4
    · rename_i hn
      refine if_neg ?_
      rintro ⟨k1, k2⟩
      exact hn ⟨k1, k2.imp id (fun k => by omega)⟩
theorem ordR_cut_l {x y : Rel} {day : Int} (h : ordR x y) (h1 : x.fr < day) (h2 : day ≤ x.un) : ordR (cutR x day) y := by
  obtain ⟨a1, a2, a3, a4⟩ := h
  refine ⟨a1, h1, a3, fun hs => ?_⟩
  have := a4 hs
  simp only [cutR]
  omega
theorem ordR_cut_r {x y : Rel} {day : Int} (h : ordR y x) (h1 : x.fr < day) (_h2 : day ≤ x.un) : ordR y (cutR x day) := by
  obtain ⟨a1, a2, a3, a4⟩ := h
  exact ⟨a1, a2, h1, a4⟩
theorem end_right {a : List Auth} {l : List Rel} {x : Rel} {k : Nat} {day : Int} (hR : RightR a l) (hk : l[k]? = some x) (h1 : x.fr < day) (h2 : day ≤ x.un) : RightR a (l.set k (cutR x day)) := by
  obtain ⟨hk', hkx⟩ := List.getElem?_eq_some_iff.1 hk
  have hpw := List.pairwise_iff_getElem.1 (right_pw hR)
  refine right_of_pw hR.1 (by rw [List.length_set]; exact hR.2.1) (fun y hy => ?_) (List.pairwise_iff_getElem.2 fun i j hi hj hij => ?_)
  · rcases List.mem_or_eq_of_mem_set hy with hy | rfl
    · exact hR.2.2.1 y hy
    · exact cut_alone (hR.2.2.1 x (hkx ▸ List.getElem_mem hk')) h1 h2
  · rw [List.length_set] at hi hj
    have h0 := hpw i j hi hj hij
    rw [List.getElem_set, List.getElem_set]
    by_cases e1 : k = i
    · subst e1
      rw [if_pos rfl, if_neg (by omega)]
      rw [hkx] at h0
      exact ordR_cut_l h0 h1 h2
    · by_cases e2 : k = j
      · subst e2
        rw [if_pos rfl, if_neg (by omega)]
        rw [hkx] at h0
        exact ordR_cut_r h0 h1 h2
      · rw [if_neg e1, if_neg e2]
        exact h0
theorem mem_set_iff {l : List Rel} {x y z : Rel} {k : Nat} (hk : l[k]? = some x) : z ∈ l.set k y ↔ z = y ∨ ∃ i, ∃ h : i < l.length, i ≠ k ∧ l[i] = z := by
  obtain ⟨hk', hkx⟩ := List.getElem?_eq_some_iff.1 hk
  constructor
  · intro h
    obtain ⟨i, hi, e⟩ := List.mem_iff_getElem.1 h
    rw [List.length_set] at hi
    rw [List.getElem_set] at e
    split at e
    · exact .inl e.symm
    · exact .inr ⟨i, hi, by omega, e⟩
  · rintro (rfl | ⟨i, hi, hne, rfl⟩)
    · exact List.mem_iff_getElem.2 ⟨k, by simpa using hk', by simp⟩
    · exact List.mem_iff_getElem.2 ⟨i, by simpa using hi, by rw [List.getElem_set, if_neg (by omega)]⟩
/-- No other relation of a right list meets one of them. -/
theorem right_apart {a : List Auth} {l : List Rel} (hR : RightR a l) {i k : Nat} (hi : i < l.length) (hk : k < l.length) (hne : i ≠ k) (hs : sameR l[i] l[k] = true) : l[i].un ≤ l[k].fr ∨ l[k].un ≤ l[i].fr := by
  have hpw := List.pairwise_iff_getElem.1 (right_pw hR)
  rcases Nat.lt_or_gt_of_ne hne with h | h
  · exact .inl ((hpw i k hi hk h).2.2.2 hs)
  · refine .inr ((hpw k i hk hi h).2.2.2 ?_)
    rw [same_t] at hs ⊢
    omega
theorem end_other {l : List Rel} {x : Rel} {k : Nat} {day u r d : Int} (hk : l[k]? = some x) (h : relOn u r d x = relOn u r d (cutR x day)) : holdersF (l.set k (cutR x day)) u r d = holdersF l u r d := by
  obtain ⟨hk', hkx⟩ := List.getElem?_eq_some_iff.1 hk
  refine asc_ext (holdersF_asc _ _ _ _) (holdersF_asc _ _ _ _) fun n => ?_
  rw [mem_holdersF, mem_holdersF]
  constructor
  · rintro ⟨y, hy, h1, h2⟩
    rcases (mem_set_iff hk).1 hy with rfl | ⟨i, hi, _, rfl⟩
    · exact ⟨x, hkx ▸ List.getElem_mem hk', by rw [h]; exact h1, h2⟩
    · exact ⟨_, List.getElem_mem hi, h1, h2⟩
  · rintro ⟨y, hy, h1, h2⟩
    obtain ⟨i, hi, rfl⟩ := List.mem_iff_getElem.1 hy
    by_cases e : i = k
    · subst e
      rw [hkx] at h1 h2
      exact ⟨cutR x day, (mem_set_iff hk).2 (.inl rfl), by rw [← h]; exact h1, h2⟩
    · exact ⟨_, (mem_set_iff hk).2 (.inr ⟨i, hi, e, rfl⟩), h1, h2⟩
theorem end_there {a : List Auth} {l : List Rel} {x : Rel} {k : Nat} {day d : Int} (hR : RightR a l) (hk : l[k]? = some x) (h1 : x.fr < day) (h2 : day ≤ d) (h3 : d < x.un) : (holdersF l x.unit x.role d).filter (fun n => !(n == x.auth)) = holdersF (l.set k (cutR x day)) x.unit x.role d := by
  obtain ⟨hk', hkx⟩ := List.getElem?_eq_some_iff.1 hk
  refine asc_ext (asc_filter (holdersF_asc _ _ _ _) _) (holdersF_asc _ _ _ _) fun n => ?_
  rw [List.mem_filter, mem_holdersF, mem_holdersF]
  constructor
  · rintro ⟨⟨y, hy, k1, k2⟩, k3⟩
    have hn : n ≠ x.auth := by simpa using k3
    obtain ⟨i, hi, rfl⟩ := List.mem_iff_getElem.1 hy
    have e : i ≠ k := fun e => by subst e; rw [hkx] at k2; exact hn k2.symm
    exact ⟨_, (mem_set_iff hk).2 (.inr ⟨i, hi, e, rfl⟩), k1, k2⟩
  · rintro ⟨y, hy, k1, k2⟩
    rcases (mem_set_iff hk).1 hy with rfl | ⟨i, hi, hne, rfl⟩
    · rw [relOn_t] at k1
      simp only [cutR] at k1
      omega
    · refine ⟨⟨_, List.getElem_mem hi, k1, k2⟩, ?_⟩
      have hn : n ≠ x.auth := fun e => by
        rw [relOn_t] at k1
        have hs : sameR l[i] l[k] = true := same_t.2 (by rw [hkx]; omega)
        have := right_apart hR hi hk' hne hs
        rw [hkx] at this
        omega
      simpa using hn
end Go.Proofs.YtfghbendiofbeaaGreatDoor

/- The plain law of the statement on holders and units: an authority holds a role for a unit just if the unit is among its units. No condition. -/
namespace Go.Proofs.YtfghbendiofbeaaGreatDoor
open Go.RowKit

theorem mem_compactUpTo (d : Array Int) (x : Int) : ∀ m, x ∈ Lib.compactUpTo d m ↔ ∃ j, j < m ∧ d[j]! = x
  | 0 => by simp [Lib.compactUpTo]
  | m + 1 => by
    rw [Lib.compactUpTo_succ, List.mem_append, mem_compactUpTo d x m]
    constructor
    · rintro (⟨j, hj, e⟩ | h2)
      · exact ⟨j, by omega, e⟩
      · cases hk : Lib.keeps d m
        · rw [hk] at h2; simp at h2
        · rw [hk, if_pos rfl, List.mem_singleton] at h2; exact ⟨m, by omega, h2.symm⟩
    · rintro ⟨j, hj, e⟩
      by_cases hjm : j < m
      · exact .inl ⟨j, hjm, e⟩
      · obtain rfl : j = m := by omega
        cases hk : Lib.keeps d j
        · unfold Lib.keeps at hk
          rw [decide_eq_false_iff_not, not_or, Decidable.not_not] at hk
          exact .inl ⟨j - 1, by omega, by rw [← hk.2, e]⟩
        · exact .inr (by rw [if_pos rfl, e]; exact List.mem_singleton.2 rfl)
theorem mem_compact (l : List Int) (x : Int) : x ∈ Lib.compact l ↔ x ∈ l := by
  unfold Lib.compact
  rw [mem_compactUpTo, List.mem_iff_getElem]
  constructor
  · rintro ⟨j, hj, e⟩
    exact ⟨j, hj, by rw [← e, getElem!_pos l.toArray j (by simpa using hj)]; simp⟩
  · rintro ⟨j, hj, e⟩
    exact ⟨j, hj, by rw [← e, getElem!_pos l.toArray j (by simpa using hj)]; simp⟩
theorem mem_unitsIn (l : List Rel) (id day u : Int) : u ∈ unitsIn l id day ↔ ∃ x ∈ l, x.auth = id ∧ inF x.fr x.un day = true ∧ x.unit = u := by
  unfold unitsIn unitOn
  simp only [List.mem_map, List.mem_filter, Bool.and_eq_true, beq_iff_eq]
  constructor
  · rintro ⟨x, ⟨h1, h2, h3⟩, h4⟩; exact ⟨x, h1, h2, h3, h4⟩
  · rintro ⟨x, h1, h2, h3, h4⟩; exact ⟨x, ⟨h1, h2, h3⟩, h4⟩
/-- The authority holds one of the first k roles. -/
def holdsUp (l : List Rel) (unit id day : Int) (k : Nat) : Bool := (List.range k).any fun j => (holdersF l unit ((j : Int) + 1) day).any fun y => id == y
theorem holdsUp_succ (l : List Rel) (unit id day : Int) (k : Nat) : holdsUp l unit id day (k + 1) = (holdsUp l unit id day k || (holdersF l unit ((k : Int) + 1) day).any fun y => id == y) := by
  unfold holdsUp
  rw [List.range_succ, List.any_append]
  simp
theorem both_law {a : List Auth} {l : List Rel} (hR : RightR a l) (unit id day : Int) : holdsUp l unit id day 4 = (Lib.compact (unitsIn l id day)).any fun y => unit == y := by
  rw [Bool.eq_iff_iff]
  unfold holdsUp
  simp only [List.any_eq_true, List.mem_range, beq_iff_eq]
  constructor
  · rintro ⟨j, hj, n, hn, rfl⟩
    obtain ⟨x, hx, ho, rfl⟩ := (mem_holdersF _ _ _ _ _).1 hn
    obtain ⟨h1, h2, h3, h4⟩ := relOn_t.1 ho
    exact ⟨unit, (mem_compact _ _).2 ((mem_unitsIn _ _ _ _).2 ⟨x, hx, rfl, in_t.2 ⟨h3, h4⟩, h1⟩), rfl⟩
  · rintro ⟨u, hu, rfl⟩
    obtain ⟨x, hx, rfl, h3, h4⟩ := (mem_unitsIn _ _ _ _).1 ((mem_compact _ _).1 hu)
    have hr := (alone_span (hR.2.2.1 x hx)).2.1
    refine ⟨(x.role - 1).toNat, by omega, x.auth, (mem_holdersF _ _ _ _ _).2 ⟨x, hx, ?_, rfl⟩, rfl⟩
    have := in_t.1 h3
    exact relOn_t.2 ⟨h4, by omega, this.1, this.2⟩
theorem units_ok {a : List Auth} {l : List Rel} {id day : Int} (h : (unitsF a l id day).2 = 0) : RightR a l ∧ 0 ≤ day ∧ day ≤ 1048575 ∧ unitsF a l id day = (Lib.compact (unitsIn l id day), 0) := by
  unfold unitsF at h ⊢
  by_cases h0 : asksF a l = 0
  · rw [if_neg (by simpa using h0)] at h ⊢
    by_cases h1 : (auFind a id).isSome = false
    · rw [if_pos h1] at h; simp at h
    · rw [if_neg h1] at h ⊢
      by_cases h2 : within day 0 1048575 = false
      · rw [if_pos h2] at h; simp at h
      · rw [if_neg h2]
        have := within_t.1 (by simpa using h2)
        exact ⟨asks_right.1 h0, this.1, this.2, rfl⟩
  · rw [if_pos (by simpa using h0)] at h; exact absurd h h0
theorem units_bad {a : List Auth} {l : List Rel} {id day : Int} (h : (unitsF a l id day).2 ≠ 0) : (unitsF a l id day).1 = [] := by
  unfold unitsF at h ⊢
  split
  · rfl
  · split
    · rfl
    · split
      · rfl
      · rename_i h0 h1 h2
        rw [if_neg h0, if_neg h1, if_neg h2] at h
        exact absurd rfl h
theorem holders_ok {a : List Auth} {l : List Rel} {u r day : Int} (hR : RightR a l) (h0 : 0 ≤ day) (h1 : day ≤ 1048575) (h2 : 1 ≤ r) (h3 : r ≤ 4) : holdersR a l u r day = (holdersF l u r day, 0) := by
  have ha : asksF a l = 0 := asks_right.2 hR
  have hr : rangedF r day = 0 := by
    unfold rangedF
    rw [if_pos]
    rw [within_t.2 ⟨h2, h3⟩, within_t.2 ⟨h0, h1⟩]
    rfl
  unfold holdersR
  rw [ha, hr]
  rfl
/-- The numbers ascend: none is less than the one before it. -/
def riseB (l : List Int) : Bool := (List.range (l.length - 1)).all fun i => decide (l.getD i 0 ≤ l.getD (i + 1) 0)
end Go.Proofs.YtfghbendiofbeaaGreatDoor

/- The plain law of the statement on inherited holders: a unit without holders of its own has those of its parent. No condition. -/
namespace Go.Proofs.YtfghbendiofbeaaGreatDoor
open Go.RowKit

theorem up_fuel (l : List Br) : ∀ (n : Nat) (b : Br), (deep l n b).isSome = true → upIds l (n + 1) b = upIds l n b
  | n, b, h => by
    by_cases h0 : b.parent = 0
    · rw [upIds_top l _ b h0, upIds_top l _ b h0]
    · cases n with
      | zero => rw [deep_cycle l b h0] at h; cases h
      | succ n =>
        cases hp : brFind l b.parent with
        | none => simp [deep, h0, hp] at h
        | some p =>
          rw [deep_up l n b p h0 hp] at h
          rw [upIds_up l (n + 1) b p h0 hp, upIds_up l n b p h0 hp, up_fuel l n p (by simpa using h)]
theorem up_parent {rs : List Int} {l : List Br} (hT : RightT ⟨rs, l⟩) {b : Br} (hb : b ∈ l) (h0 : b.parent ≠ 0) : ∃ p, brFind l b.parent = some p ∧ upIds l l.length b = b.id :: upIds l l.length p := by
  obtain ⟨j, hj, rfl⟩ := List.mem_iff_getElem.1 hb
  obtain ⟨d, hd, _⟩ := hT.2.2.2.2.2 j hj
  dsimp only at hd
  obtain ⟨m, hm⟩ : ∃ m, l.length = m + 1 := ⟨l.length - 1, by omega⟩
  have hP : BrPlaced l l[j] := hT.2.2.1 j hj
  unfold BrPlaced at hP
  rw [if_neg h0] at hP
  obtain ⟨p, hp, _⟩ := hP
  rw [hm, deep_up l m _ p h0 hp] at hd
  have hs : (deep l m p).isSome = true := by
    cases hq : deep l m p with
    | none => rw [hq] at hd; cases hd
    | some _ => rfl
  refine ⟨p, hp, ?_⟩
  rw [hm, upIds_up l m _ p h0 hp, up_fuel l m p hs]
theorem up_mem (l : List Br) : ∀ (n : Nat) (b : Br), b ∈ l → ∀ u ∈ upIds l n b, ∃ y ∈ l, y.id = u
  | 0, b, hb, u, hu => ⟨b, hb, by simp [upIds] at hu; exact hu.symm⟩
  | n + 1, b, hb, u, hu => by
    unfold upIds at hu
    split at hu
    · exact ⟨b, hb, by simp at hu; exact hu.symm⟩
    · split at hu
      · exact ⟨b, hb, by simp at hu; exact hu.symm⟩
      · rename_i p hp
        rcases List.mem_cons.1 hu with rfl | hu
        · exact ⟨b, hb, rfl⟩
        · exact up_mem l n p (find_mem hp).1 u hu
theorem right_ids {rs : List Int} {l : List Br} (hT : RightT ⟨rs, l⟩) {y : Br} (hy : y ∈ l) : y.id ≠ 0 := by
  obtain ⟨j, hj, rfl⟩ := List.mem_iff_getElem.1 hy
  have := within_t.1 (hT.2.1 j hj).1
  dsimp only at this
  omega
theorem inhF_zero (l : List Rel) (r d : Int) : ∀ us : List Int, (∀ u ∈ us, u ≠ 0) → ((inhF l r d us).2 = 0 ↔ (inhF l r d us).1 = [])
  | [], _ => by simp [inhF]
  | u :: us, h => by
    rw [inhF]
    by_cases h0 : holdersF l u r d = []
    · rw [if_pos h0]; exact inhF_zero l r d us (fun v hv => h v (List.mem_cons_of_mem _ hv))
    · rw [if_neg h0]
      have := h u (List.mem_cons_self ..)
      simp [h0, this]
theorem inhR_bad {t : Tr} {a : List Auth} {l : List Rel} {unit r d : Int} (h : (inhR t a l unit r d).2 ≠ 0) : (inhR t a l unit r d).1 = ([], 0) := by
  unfold inhR at h ⊢
  split
  · rfl
  · split
    · rfl
    · rename_i h1 h2
      rw [if_neg h1, if_neg h2] at h
      exact absurd rfl h
theorem inhR_ok {t : Tr} {a : List Auth} {l : List Rel} {unit r d : Int} (h : (inhR t a l unit r d).2 = 0) : RightT t ∧ RightR a l ∧ rangedF r d = 0 ∧ ∃ b, brFind t.brs unit = some b ∧ inhR t a l unit r d = (inhF l r d (upIds t.brs t.brs.length b), 0) := by
  unfold inhR at h ⊢
  split at h
  · simp at h
  · rename_i h1
    rw [not_or, Classical.not_not, Decidable.not_not] at h1
    split at h
    · rename_i h2; exact absurd h h2
    · rename_i h2
      rw [Decidable.not_not] at h2
      have h3 := or2_zero h2
      rw [if_neg (by rw [not_or, Classical.not_not, Decidable.not_not]; exact h1), if_neg (by rw [Decidable.not_not]; exact h2)]
      refine ⟨h1.1, asks_right.1 h1.2, h3.2, ?_⟩
      have h4 := h3.1
      unfold pathR at h4 ⊢
      cases hb : brFind t.brs unit with
      | none => rw [hb] at h4; simp at h4
      | some b => exact ⟨b, rfl, by simp [pathF]⟩
theorem inhR_of {t : Tr} {a : List Auth} {l : List Rel} {unit r d : Int} {b : Br} (hT : RightT t) (hR : RightR a l) (hr : rangedF r d = 0) (hb : brFind t.brs unit = some b) : inhR t a l unit r d = (inhF l r d (upIds t.brs t.brs.length b), 0) := by
  unfold inhR
  have hp : (pathR t.brs unit) = (pathF t.brs b, 0) := by unfold pathR; rw [hb]
  rw [if_neg (by rw [not_or, Classical.not_not, Decidable.not_not]; exact ⟨hT, asks_right.2 hR⟩), hp, hr, if_neg (by simp [orF])]
  simp [pathF]
theorem ranged_ok {r d : Int} (h : rangedF r d = 0) : 1 ≤ r ∧ r ≤ 4 ∧ 0 ≤ d ∧ d ≤ 1048575 := by
  unfold rangedF at h
  split at h
  · rename_i h1
    rw [Bool.and_eq_true, within_t, within_t] at h1
    exact ⟨h1.1.1, h1.1.2, h1.2.1, h1.2.2⟩
  · simp at h
/-- What the statement asks, where Inherited returned no error. -/
theorem parents_law {rs : List Int} {br : List Br} {a : List Auth} {l : List Rel} {unit r d : Int} (h : (inhR ⟨rs, br⟩ a l unit r d).2 = 0) :
    (holdersR a l unit r d).2 = 0 ∧ ∃ b, brFind br unit = some b ∧ ((inhR ⟨rs, br⟩ a l unit r d).1.2 = 0 ↔ (inhR ⟨rs, br⟩ a l unit r d).1.1 = []) ∧
      ((holdersR a l unit r d).1 ≠ [] → (inhR ⟨rs, br⟩ a l unit r d).1 = ((holdersR a l unit r d).1, unit)) ∧
      ((holdersR a l unit r d).1 = [] → b.parent = 0 → (inhR ⟨rs, br⟩ a l unit r d).1.2 = 0) ∧
      ((holdersR a l unit r d).1 = [] → b.parent ≠ 0 → inhR ⟨rs, br⟩ a l b.parent r d = inhR ⟨rs, br⟩ a l unit r d) := by
  obtain ⟨hT, hR, hr, b, hb, he⟩ := inhR_ok h
  dsimp only at hb he
  obtain ⟨h1, h2, h3, h4⟩ := ranged_ok hr
  have hh := holders_ok (u := unit) hR h3 h4 h1 h2
  obtain ⟨hbm, hbi⟩ := find_mem hb
  rw [hh, he]
  have hz : ∀ u ∈ upIds br br.length b, u ≠ 0 := fun u hu => by
    obtain ⟨y, hy, rfl⟩ := up_mem br _ b hbm u hu
    exact right_ids hT hy
  have hhead : ∃ rest, upIds br br.length b = unit :: rest ∧ (b.parent = 0 → rest = []) ∧ (b.parent ≠ 0 → ∃ p, brFind br b.parent = some p ∧ rest = upIds br br.length p) := by
    by_cases h0 : b.parent = 0
    · exact ⟨[], by rw [upIds_top br _ b h0, hbi], fun _ => rfl, fun hne => absurd h0 hne⟩
    · obtain ⟨p, hp, hu⟩ := up_parent hT hbm h0
      exact ⟨_, by rw [hu, hbi], fun h => absurd h h0, fun _ => ⟨p, hp, rfl⟩⟩
  obtain ⟨rest, hu, hr0, hr1⟩ := hhead
  refine ⟨rfl, b, hb, inhF_zero l r d _ hz, fun hne => ?_, fun hn h0 => ?_, fun hn h0 => ?_⟩
  · dsimp only at hne ⊢
    rw [hu, inhF, if_neg hne]
  · dsimp only at hn ⊢
    rw [hu, hr0 h0, inhF, if_pos hn]
    rfl
  · dsimp only at hn
    obtain ⟨p, hp, rfl⟩ := hr1 h0
    rw [inhR_of hT hR hr (show brFind (Tr.brs ⟨rs, br⟩) b.parent = some p from hp)]
    dsimp only
    rw [hu, inhF, if_pos hn]
end Go.Proofs.YtfghbendiofbeaaGreatDoor

/-
  DERIVED: THE SHELF's CONTRACTS AT THIS DUMP, IN PLAIN WORDS (tools/lay-plain.mjs out of 'YtfghbendiofbeaaGreatDoorShelf2.lean', which tools/lay-shelf.mjs wrote): THE SAME DECLARATIONS UNDER THE SAME NAMES: 'import', 'namespace', 'open', 'def', 'theorem' AND NOTHING ELSE: no command of the shelf's: FOR A HAND-IN. Each laying: the table of numbers ('.._ren') and one theorem, a field a fact of the dump's own or the kernel's comparison; each contract: ONE APPLICATION.
-/
namespace Go.Proofs
open Go.Shelf
def Tryz.laysM171_ren : Go.Shelf.Ren := ⟨fun | 171 => 50 | 243 => 84 | 246 => 112 | 283 => 143 | 284 => 144 | 285 => 145 | 286 => 146 | 129 => 157 | 317 => 171 | 318 => 172 | 319 => 173 | 320 => 174 | 337 => 184 | 338 => 185 | n => n, fun | 3 => 3 | 9 => 9 | 2 => 2 | 4 => 4 | 171 => 147 | 0 => 0 | 53 => 148 | 37 => 110 | 5 => 5 | 173 => 151 | 212 => 170 | 51 => 162 | 20 => 20 | 213 => 171 | 46 => 131 | 232 => 185 | 233 => 186 | n => n, fun | 17 => 0 | 18 => 1 | 19 => 2 | n => n⟩
theorem Tryz.laysM171 : Go.Proofs.LaysM.n171 Tryz.prog Tryz.laysM171_ren := {
  mixed := by kernel_rfl
  f129 := Tryz.func157.trans (congrArg some (by kernel_rfl))
  f171 := Tryz.func50.trans (congrArg some (by kernel_rfl))
  f243 := Tryz.func84.trans (congrArg some (by kernel_rfl))
  f246 := Tryz.func112.trans (congrArg some (by kernel_rfl))
  f283 := Tryz.func143.trans (congrArg some (by kernel_rfl))
  f284 := Tryz.func144.trans (congrArg some (by kernel_rfl))
  f285 := Tryz.func145.trans (congrArg some (by kernel_rfl))
  f286 := Tryz.func146.trans (congrArg some (by kernel_rfl))
  f317 := Tryz.func171.trans (congrArg some (by kernel_rfl))
  f318 := Tryz.func172.trans (congrArg some (by kernel_rfl))
  f319 := Tryz.func173.trans (congrArg some (by kernel_rfl))
  f320 := Tryz.func174.trans (congrArg some (by kernel_rfl))
  f337 := Tryz.func184.trans (congrArg some (by kernel_rfl))
  f338 := Tryz.func185.trans (congrArg some (by kernel_rfl))
  t0 := Tryz.underlying0
  a0 := Tryz.isAgg0
  z0 := Tryz.sizeOf0
  v0 := Tryz.zeroValue0
  t2 := Tryz.underlying2
  a2 := Tryz.isAgg2
  z2 := Tryz.sizeOf2
  v2 := Tryz.zeroValue2
  t3 := Tryz.underlying3
  a3 := Tryz.isAgg3
  z3 := Tryz.sizeOf3
  v3 := Tryz.zeroValue3
  t4 := Tryz.underlying4
  a4 := Tryz.isAgg4
  z4 := Tryz.sizeOf4
  v4 := Tryz.zeroValue4
  t5 := Tryz.underlying5
  a5 := Tryz.isAgg5
  z5 := Tryz.sizeOf5
  v5 := Tryz.zeroValue5
  t9 := Tryz.underlying9
  a9 := Tryz.isAgg9
  z9 := Tryz.sizeOf9
  v9 := Tryz.zeroValue9
  t20 := Tryz.underlying20
  a20 := Tryz.isAgg20
  z20 := Tryz.sizeOf20
  v20 := Tryz.zeroValue20
  t37 := Tryz.underlying110
  a37 := Tryz.isAgg110
  z37 := Tryz.sizeOf110
  v37 := Tryz.zeroValue110
  t46 := Tryz.underlying131
  a46 := Tryz.isAgg131
  z46 := Tryz.sizeOf131
  v46 := Tryz.zeroValue131
  t51 := Tryz.underlying162
  a51 := Tryz.isAgg162
  z51 := Tryz.sizeOf162
  v51 := Tryz.zeroValue162
  t53 := Tryz.underlying148
  a53 := Tryz.isAgg148
  z53 := Tryz.sizeOf148
  v53 := Tryz.zeroValue148
  t171 := Tryz.underlying147
  a171 := Tryz.isAgg147
  z171 := Tryz.sizeOf147
  v171 := Tryz.zeroValue147
  t173 := Tryz.underlying151
  a173 := Tryz.isAgg151
  z173 := Tryz.sizeOf151
  v173 := Tryz.zeroValue151
  t212 := Tryz.underlying170
  a212 := Tryz.isAgg170
  z212 := Tryz.sizeOf170
  v212 := Tryz.zeroValue170
  t213 := Tryz.underlying171
  a213 := Tryz.isAgg171
  z213 := Tryz.sizeOf171
  t232 := Tryz.underlying185
  a232 := Tryz.isAgg185
  z232 := Tryz.sizeOf185
  v232 := Tryz.zeroValue185
  t233 := Tryz.underlying186
  a233 := Tryz.isAgg186
  z233 := Tryz.sizeOf186
  v233 := Tryz.zeroValue186
  g17 := by kernel_rfl
  g18 := by kernel_rfl
  g19 := by kernel_rfl
  i0 := by kernel_rfl
  i2 := by kernel_rfl
  i3 := by kernel_rfl
  i4 := by kernel_rfl
  i5 := by kernel_rfl
  i9 := by kernel_rfl
  i20 := by kernel_rfl
  i37 := by kernel_rfl
  i46 := by kernel_rfl
  i51 := by kernel_rfl
  i53 := by kernel_rfl
  i171 := by kernel_rfl
  i173 := by kernel_rfl
  i212 := by kernel_rfl
  i232 := by kernel_rfl
  i233 := by kernel_rfl
  m17 := by kernel_rfl
  m18 := by kernel_rfl
  m19 := by kernel_rfl }
open Go.RowKit Go.Sort Go.Lib in
theorem Tryz.strconv_Itoa (n : Int) (h0 : -9223372036854775808 ≤ n) (h1 : n ≤ 9223372036854775807) (w : World) (htab : Lib.TabIs Tryz.prog w "internal/strconv.uint64pow10" .u64 Lib.pow10Tab) :
    Calls Tryz.prog 50 #[.int .i64 n] w fun e w' => e = .returned (.string ⟨(Lib.itoa n).toArray⟩) ∧ ∃ k os, w' = grow (w.drewN k) os := Any.strconv_Itoa Tryz.laysM171 n h0 h1 w htab
end Go.Proofs
