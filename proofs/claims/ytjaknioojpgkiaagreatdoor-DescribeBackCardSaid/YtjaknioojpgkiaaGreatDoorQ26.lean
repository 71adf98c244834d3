/- Lemmas on what the functions of the program and of the library compute: R3, Lfi, Lim, PlainWa, Lim2, Lfd, PlainWb, CompI, SetI. The conditions stand at each. -/
import Derived.Test.YtjaknioojpgkiaaGreatDoorQ8
import Derived.Test.YtjaknioojpgkiaaGreatDoorQ25
import Derived.Test.YtjaknioojpgkiaaGreatDoorQ11
import Derived.Test.YtjaknioojpgkiaaGreatDoorQ21
import Derived.Test.YtjaknioojpgkiaaGreatDoorQ22
import Derived.Test.YtjaknioojpgkiaaGreatDoorQ10
import Derived.Test.YtjaknioojpgkiaaGreatDoorQ2
import Derived.Test.YtjaknioojpgkiaaGreatDoorQ4
import Derived.Test.YtjaknioojpgkiaaGreatDoorQ3
import Derived.Test.YtjaknioojpgkiaaGreatDoorQ5
import Derived.Deep.RegionHeld3
import Derived.Deep.DeepCutAuto
import Derived.Test.YtjaknioojpgkiaaGreatDoorQ23
import Derived.Maps.RangeWalk
import Derived.Maps.OwnSet
/- The reference implementation's bound on sizes, walked: where it says yes, the lists are short. No condition. -/
namespace Go.Proofs.YtjaknioojpgkiaaGreatDoor
open Go.RowKit

/-- How the bound ends: no, or yes and short. -/
def FewEnd (w : World) (n m : Nat) (e : Ending) (w' : World) : Prop := (e = .returned (.bool false) ∨ (e = .returned (.bool true) ∧ n ≤ 10 ∧ m ≤ 1025)) ∧ w = w'
set_option maxHeartbeats 4000000 in
theorem few_any (l : List ByteArray) (vs : List Val) (lv vv : Value) (w : World) (hl : SlS w lv l) (hv : SlV w vv vs) :
    Calls Tryz.prog 12 #[lv, vv] w fun e w' => FewEnd w l.length vs.length e w' := by
  obtain ⟨A, c, rfl, hlc, hc, hr⟩ := hl.open_
  obtain ⟨A', c', rfl, hlc', hc', hr'⟩ := hv.open_
  unfold maxLen at hc hc'
  have HR := Lib.hid hr
  have HR' := Lib.hid hr'
  clear hr hr' hl hv
  go_enter Tryz.func12, Tryz.ntmps12
  go_wp2
  go_loop [5] (fun i => ∃ k : Nat, k ≤ l.length ∧ i = .int .i64 k) (fun i => l.length - (intOf i).toNat)
  case atStart => exact ⟨0, by omega, rfl⟩
  case round =>
    obtain ⟨k, hk, rfl⟩ := hrel
    by_cases hlt : k < l.length
    · have hltz : (k : Int) < (l.length : Int) := by omega
      have h0z : (0 : Int) ≤ (k : Int) := by omega
      obtain ⟨b, off, rfl, hb, hcell⟩ := HR.out (by omega)
      have hcl := hcell w (Grew.refl w) k hlt
      generalize l[k] = y at hcl
      clear hcell
      by_cases hs : 20 < y.size
      · have hsz : (20 : Int) < (y.size : Int) := by omega
        go_wp2
        go_ret
        exact ⟨Or.inl rfl, rfl⟩
      · have hsz : decide ((20 : Int) < (y.size : Int)) = false := by simp; omega
        go_wp2
        go_round
        case rel => exact ⟨k + 1, by omega, by go_num⟩
        case measure => simp [intOf]; omega
    · have hltz : ¬ (k : Int) < (l.length : Int) := by omega
      go_wp2
      go_loop [6] (fun i => ∃ m : Nat, m ≤ vs.length ∧ i = .int .i64 m) (fun i => vs.length - (intOf i).toNat)
      case atStart => exact ⟨0, by omega, rfl⟩
      case round =>
        obtain ⟨m, hm, rfl⟩ := hrel
        by_cases hlm : m < vs.length
        · have hlmz : (m : Int) < (vs.length : Int) := by omega
          have h0m : (0 : Int) ≤ (m : Int) := by omega
          obtain ⟨b, off, rfl, hb, hcell⟩ := HR'.out (by omega)
          obtain ⟨-, -, c2, c3⟩ := hcell w (Grew.refl w) m hlm
          generalize vs[m].lang = yl at c2
          generalize vs[m].text = yt at c3
          clear hcell
          cases a1 : decide ((300 : Int) < (yt.size : Int)) <;> cases a2 : ((yt.size : Int) == 4096) <;> cases a3 : ((yt.size : Int) == 4097) <;> cases a4 : decide ((20 : Int) < (yl.size : Int))
          all_goals go_wp2
          all_goals first | (go_ret; exact ⟨Or.inl rfl, rfl⟩) | (go_round; (case rel => exact ⟨m + 1, by omega, by go_num⟩); (case measure => simp [intOf]; omega))
        · have hlmz : ¬ (m : Int) < (vs.length : Int) := by omega
          cases a1 : decide ((l.length : Int) ≤ 10) <;> cases a2 : decide ((vs.length : Int) ≤ 30) <;> cases a3 : ((vs.length : Int) == 1025)
          all_goals go_wp2
          all_goals go_ret
          all_goals refine ⟨?_, rfl⟩
          all_goals first | exact Or.inl rfl | exact Or.inr ⟨rfl, by simp at a1 a2 a3; omega, by simp at a1 a2 a3; omega⟩
end Go.Proofs.YtjaknioojpgkiaaGreatDoor

/- The bound on sizes of layer 28, walked: where it says yes, the lists are short. No condition. -/
namespace Go.Proofs.YtjaknioojpgkiaaGreatDoor
open Go.RowKit

def FewI (t : Tr) (ls : List ByteArray) (vs : List Val) : Prop := FewTM t.roots t.brs ∧ ls.length ≤ 10 ∧ vs.length ≤ 1025
end Go.Proofs.YtjaknioojpgkiaaGreatDoor

/- What the laws of layer 28 share. No condition. -/
namespace Go.Proofs.YtjaknioojpgkiaaGreatDoor
open Go.RowKit

/-- Behind `v, ok, e := Found(..)`: a value lies in a box of its own. -/
def ValCut3 (W0 : World) (xu xe : Int) (xl xt : ByteArray) (s : Bool) (n : Int) (s1 s2 s3 : Value) (wx : World) : Prop := ValCut W0 xu xe xl xt s s1 s2 wx ∧ s3 = .int .i64 n
theorem val3 {W0 wx : World} {xu xe : Int} {xl xt : ByteArray} {s : Bool} {n : Int} {s1 s2 : Value} (h : ValCut W0 xu xe xl xt s s1 s2 wx) : ValCut3 W0 xu xe xl xt s n s1 s2 (.int .i64 n) wx := ⟨h, rfl⟩
/-- Behind `l, e := Reach(..)`. -/
def LisCut (W0 : World) (l : List Int) (n : Int) (s1 s2 : Value) (wx : World) : Prop := (∃ A c, s1 = .slice A l.length c) ∧ s2 = .int .i64 n ∧ Aside (SlI wx s1 l) ∧ Aside (Grew W0 wx)
def LvsCut (W0 : World) (l : List Val) (n : Int) (s1 s2 : Value) (wx : World) : Prop := (∃ A c, s1 = .slice A l.length c) ∧ s2 = .int .i64 n ∧ Aside (SlV wx s1 l) ∧ Aside (Grew W0 wx)
theorem heldI (w1 W : World) {p q : Addr} {x y : Value} (h : w1.cell? p = some x) (h2 : w1.cell? q = some y) (g : Grew w1 W) : W.cell? p = some x ∧ W.cell? q = some y ∧ Grew w1 W := ⟨keep_cell g h, keep_cell g h2, g⟩
theorem clS (ls : List ByteArray) (v : Value) (w : World) (h : SlS w v ls) (hb : ls.length ≤ 10) : Calls Tryz.prog 14 #[v] w fun e w' => ∃ A c, e = .returned (.slice A ls.length c) ∧ SlS w' (.slice A ls.length c) ls ∧ Grew w w' := by
  refine (cloneS ls v w h (by omega)).mono ?_
  rintro e w' ⟨v', rfl, ho, g⟩
  obtain ⟨A, c, rfl⟩ := own_slice ho
  exact ⟨A, c, rfl, Rd.of_own ho, g⟩
theorem clV (vs : List Val) (v : Value) (w : World) (h : SlV w v vs) (hb : vs.length ≤ 1025) : Calls Tryz.prog 15 #[v] w fun e w' => ∃ A c, e = .returned (.slice A vs.length c) ∧ SlV w' (.slice A vs.length c) vs ∧ Grew w w' := by
  refine (cloneV vs v w h (by omega)).mono ?_
  rintro e w' ⟨v', rfl, ho, g⟩
  obtain ⟨A, c, rfl⟩ := own_slice ho
  exact ⟨A, c, rfl, Rd.of_own ho, g⟩
theorem lit1S (W : World) (x : ByteArray) : SlS (W.alloc (.cells #[.string x] 9)) (.slice (some ⟨W.heap.size, 0, none⟩) 1 1) [x] := Rd.fresh W 9 1 1 [.string x] rfl (by decide)
end Go.Proofs.YtjaknioojpgkiaaGreatDoor

/- The law InheritWanted, plainly. No condition. -/
namespace Go.Proofs.YtjaknioojpgkiaaGreatDoor
open Go.RowKit

theorem lang_of_langs {ls : List ByteArray} (h : langsF ls = 0) {s : ByteArray} (hs : s ∈ ls) : isLangF s.data.toList = true := by
  unfold langsF at h
  split at h
  · cases h
  · split at h
    · cases h
    · split at h
      · cases h
      · rename_i h3
        cases hb : isLangF s.data.toList with
        | true => rfl
        | false => exact absurd (List.any_eq_true.2 ⟨s, hs, by simp [hb]⟩) h3
section
variable {t : Tr} {ls : List ByteArray} {vs : List Val} {u n : Int} {wt : ByteArray} (h : askI t ls vs u n wt = 0)
include h
theorem wa_found : foundR t ls vs u n wt = (foundF t.brs vs u n wt, 0) := by
  unfold foundR
  rw [if_pos h]
end
end Go.Proofs.YtjaknioojpgkiaaGreatDoor

/- What the laws of layer 28 share: lists behind a cut. No condition. -/
namespace Go.Proofs.YtjaknioojpgkiaaGreatDoor
open Go.RowKit

theorem lisC {W0 wx : World} {A : Option Addr} {c : Nat} {l : List Int} {n : Int} (h : SlI wx (.slice A l.length c) l) (g : Grew W0 wx) : LisCut W0 l n (.slice A l.length c) (.int .i64 n) wx := ⟨⟨A, c, rfl⟩, rfl, h, g⟩
theorem lvsC {W0 wx : World} {A : Option Addr} {c : Nat} {l : List Val} {n : Int} (h : SlV wx (.slice A l.length c) l) (g : Grew W0 wx) : LvsCut W0 l n (.slice A l.length c) (.int .i64 n) wx := ⟨⟨A, c, rfl⟩, rfl, h, g⟩
end Go.Proofs.YtjaknioojpgkiaaGreatDoor

/- The bound on sizes of layer 29, walked: where it says yes, the lists are short. No condition. -/
namespace Go.Proofs.YtjaknioojpgkiaaGreatDoor
open Go.RowKit

theorem few29_1 (s : ByteArray) (w : World) : Calls Tryz.prog 51 #[.string s] w fun e w' => e = .returned (.bool (decide (20 < (s.size : Int)))) ∧ Grew w w' := by
  go_enter Tryz.func51, Tryz.ntmps51
  go_wp2
  go_ret
  exact ⟨rfl, Grew.refl w⟩
theorem enters_few29 : ∀ args w, (callFunc 51 args).run Tryz.prog w = .ok (.enter 51 args) w := enters_of Tryz.func51 (by kernel_rfl) rfl
set_option maxHeartbeats 2000000 in
theorem fewLawD (t : Tr) (ls : List ByteArray) (vs : List Val) (ms : List ByteArray) (rv bv lv vv mv : Value) (w : World) (hr : SlI w rv t.roots) (hv : SlBr w bv t.brs) (hl : SlS w lv ls) (hvv : SlV w vv vs) (hm : SlS w mv ms) :
    Calls Tryz.prog 11 #[.agg #[rv, bv], lv, vv, mv] w (YesIf (FewI t ls vs) w) := by
  have KT := Lib.hid (fun W (hW : Grew w W) => few19_m t.roots t.brs rv bv W (hr.mono hW) (hv.mono hW))
  have KL := Lib.hid (fun W (hW : Grew w W) => few_any ls vs lv vv W (hl.mono hW) (hvv.mono hW))
  have KM := Lib.hid (fun W (hW : Grew w W) => containsFuncS ms (fun s => decide (20 < (s.size : Int))) _ #[] enters_few29 mv W (hm.mono hW) (fun W2 x _ _ => by rw [show (#[Value.string x] ++ #[] : Array Value) = #[.string x] by simp]; exact few29_1 x W2))
  obtain ⟨Ar, cr, rfl, -⟩ := hr.open_
  obtain ⟨Ab, cb, rfl, -⟩ := hv.open_
  have HFI := Lib.hid (show FewTM t.roots t.brs → ls.length ≤ 10 → vs.length ≤ 1025 → FewI t ls vs from fun a b c => ⟨a, b, c⟩)
  generalize FewI t ls vs = FI at HFI ⊢
  generalize (ms.any fun s => decide (20 < (s.size : Int))) = m at KM
  clear hr hv hl hvv hm
  go_enter Tryz.func11, Tryz.ntmps11
  go_wp2_with fail
  refine (KT.out _ ((Grew.refl w).alloc _)).mono ?_
  rintro e w1 ⟨q, rfl, hq, g1⟩
  have HQ := Lib.hid hq
  have HG1 := Lib.hid (((Grew.refl w).alloc _).trans g1)
  clear hq g1 KT
  dsimp only
  cases q with
  | false =>
    go_wp2
    go_ret
    exact YesIf.no HG1.out
  | true =>
    go_wp2_with fail
    refine (KL.out _ HG1.out).mono ?_
    rintro e w2 ⟨h2, rfl⟩
    rcases h2 with rfl | ⟨rfl, h3, h4⟩
    · dsimp only
      go_wp2
      go_ret
      exact YesIf.no HG1.out
    · have HF := Lib.hid (HFI.out (HQ.out (by first | rfl | trivial)) h3 h4)
      clear h3 h4 HQ HFI
      dsimp only
      go_wp2_with fail
      refine (KM.out _ HG1.out).mono ?_
      rintro e w3 ⟨rfl, g3⟩
      have HG3 := Lib.hid (HG1.out.trans g3)
      clear g3 KM
      dsimp only
      cases m with
      | true =>
        go_wp2
        go_ret
        exact YesIf.no HG3.out
      | false =>
        go_wp2
        go_ret
        exact YesIf.yes HF.out HG3.out
end Go.Proofs.YtjaknioojpgkiaaGreatDoor

/- The laws InheritWithout and InheritConnected, plainly. No condition. -/
namespace Go.Proofs.YtjaknioojpgkiaaGreatDoor
open Go.RowKit

theorem red_get {t : Tr} {vs : List Val} {x : Int} (hx : x ∈ redF t vs) : ∃ i, ∃ hi : i < vs.length, x = (i : Int) ∧ redB t vs vs[i] = true := by
  unfold redF at hx
  obtain ⟨i, hi, rfl⟩ := List.mem_map.1 hx
  obtain ⟨h1, h2⟩ := List.mem_filter.1 hi
  have hl := List.mem_range.1 h1
  rw [List.getElem?_eq_getElem hl] at h2
  exact ⟨i, hl, rfl, h2⟩
theorem opt_text {a b : Option Val} (h : a.map (·.text) = b.map (·.text)) : a.isSome = b.isSome ∧ (a.getD val0).text = (b.getD val0).text := by
  cases a <;> cases b <;> simp_all
theorem any_mem (l : List Int) (u : Int) : (l.any fun y => u == y) = true ↔ u ∈ l := by
  rw [List.any_eq_true]
  constructor
  · rintro ⟨y, hy, e⟩
    have : u = y := by simpa using e
    rw [this]
    exact hy
  · exact fun h => ⟨u, h, by simp⟩
end Go.Proofs.YtjaknioojpgkiaaGreatDoor

/- slices.Compact at numbers, on a row of the call's own. No condition but the sizes that a slice can have. -/
namespace Go.Proofs.YtjaknioojpgkiaaGreatDoor
open Go.RowKit Go.Sort

theorem comp_len (l : List Int) : (Lib.compact l).length ≤ l.length := by
  unfold Lib.compact Lib.compactUpTo
  rw [List.length_map]
  have := List.length_filter_le (Lib.keeps l.toArray) (List.range l.length)
  simpa using this
theorem compact_own (l : List Int) (w0 : World) (e : TypeId) (v : Value) (w : World) (hown : w.ownsRow w0.heap.size e 1 v l.length (l.flatMap oneI)) (hg : Grew w0 w) (hl : l.length ≤ 1000000) (hcl : (Lib.compact l).length ≤ l.length) :
    Calls Tryz.prog 73 #[v] w fun en w' => ∃ v', en = .returned v' ∧ SlI w' v' (Lib.compact l) ∧ Grew w0 w' := by
  rcases Nat.eq_zero_or_pos l.length with h0 | h0
  · obtain rfl : l = [] := List.eq_nil_of_length_eq_zero h0
    have hv : ∃ A c, v = .slice A 0 c := by
      rcases hown.2 with ⟨rfl, _⟩ | ⟨g, cap, cur, rfl, _⟩
      · exact ⟨_, _, rfl⟩
      · exact ⟨_, _, rfl⟩
    obtain ⟨A, c, rfl⟩ := hv
    refine (Tryz.slices_Compact_int_empty A c w).mono ?_
    rintro en w' ⟨rfl, rfl⟩
    have hc0 : Lib.compact ([] : List Int) = [] := List.eq_nil_of_length_eq_zero (by simpa using hcl)
    refine ⟨_, rfl, ?_, hg⟩
    rw [hc0]
    exact Rd.of_own hown
  · obtain ⟨g, cap, rfl, hbg, hlt, hcap⟩ := own_form hown h0
    have hH := holdsI_of_own hown
    refine (Tryz.slices_Compact_int g 0 cap l w hH (by omega) hcap).mono ?_
    rintro en w' ⟨rfl, n, rfl⟩
    have hfl : (Lib.compact l ++ List.replicate (l.length - (Lib.compact l).length) (0 : Int)).length = l.length := by simp; omega
    have hh2 := holds_putRow (Value.int .i64) (Sort.ahead w n) g 0 l.toArray (Lib.compact l ++ List.replicate (l.length - (Lib.compact l).length) (0 : Int)).toArray (holds_ahead _ _ _ _ _ _ hH) (by simpa using hfl)
    have hs := slI_of_holds hh2 (by simp; omega) (by rw [hfl]; exact hcap) (own_max hown)
    refine ⟨_, rfl, ?_, grew_putI hbg hg _ _⟩
    have := Rd.take (k := 1) (f := oneI) (fun _ => rfl) (by omega) (show Rd _ 1 _ (_) from hs) (Lib.compact l).length (by simp)
    rw [List.take_left] at this
    exact this
end Go.Proofs.YtjaknioojpgkiaaGreatDoor

/- A set of numbers that is kept in a map: what it has, and what a range over it collects. No condition. -/
namespace Go.Proofs.YtjaknioojpgkiaaGreatDoor
open Go.RowKit Go.Maps

/-- The set of some numbers, as a map to true. -/
def setInts (ks : List Int) : DataW Unit := setOf (.lit (.bool true)) (ks.map fun n => .int .i64 n)
theorem has_setInts (ks : List Int) (n : Int) : has (setInts ks) (.int .i64 n) = true ↔ n ∈ ks := by
  unfold setInts
  rw [has_setOf _ _ _ (fun x hx => by
    obtain ⟨m, _, rfl⟩ := List.mem_map.1 hx
    trivial), List.any_eq_true]
  constructor
  · rintro ⟨x, hx, hs⟩
    obtain ⟨m, hm, rfl⟩ := List.mem_map.1 hx
    simp [Lit.sameKey] at hs
    exact hs ▸ hm
  · intro h
    exact ⟨_, List.mem_map.2 ⟨n, h, rfl⟩, by simp [Lit.sameKey]⟩
/-- What has come of a range over a map keyed by numbers. -/
def CollI (D0 : DataW Unit) (left : Lit → Bool) (ks : List Int) : Prop := ks.Nodup ∧ ∀ x, x ∈ ks ↔ (has D0 (.int .i64 x) = true ∧ left (.int .i64 x) = false)
theorem CollI.start (D0 : DataW Unit) : CollI D0 (has D0) [] := ⟨List.nodup_nil, fun x => by cases has D0 (.int .i64 x) <;> simp⟩
theorem CollI.step {D0 : DataW Unit} {left : Lit → Bool} {ks : List Int} (h : CollI D0 left ks) {x : Int} {y : DataW Unit} (hlk : left (.int .i64 x) = true) (hat : ∀ zd, D0.atKey (.int .i64 x) zd = y) : CollI D0 (fun z => left z && !z.sameKey (.int .i64 x)) (ks ++ [x]) := by
  have hhas : has D0 (.int .i64 x) = true := has_true_of_atKey hat
  have hnew : x ∉ ks := fun hx => by have := ((h.2 x).1 hx).2; rw [hlk] at this; cases this
  refine ⟨List.nodup_append.2 ⟨h.1, by simp, fun a ha b hb => by simp at hb; subst hb; exact fun e => hnew (e ▸ ha)⟩, fun y => ?_⟩
  by_cases hy : y = x
  · subst hy; simp [hhas, Lit.sameKey]
  · simp [h.2 y, hy, Lit.sameKey]
theorem CollI.done {ks0 : List Int} {left : Lit → Bool} {ks : List Int} (h : CollI (setInts ks0) left ks) (hl : ∀ kl, left kl = false) : ks.Nodup ∧ ∀ n, n ∈ ks ↔ n ∈ ks0 :=
  ⟨h.1, fun n => by rw [h.2 n, has_setInts]; simp [hl]⟩
end Go.Proofs.YtjaknioojpgkiaaGreatDoor
