/- Lemmas on what the functions of the program and of the library compute: PlainO, PlainP, PlainBl, E1, Idx, E2, PlainA, E3, SeqS. The conditions stand at each. -/
import Derived.Test.YtjaknioojpgkiaaGreatDoorQ5
import Derived.Test.YtjaknioojpgkiaaGreatDoorQ6
import Derived.Test.YtjaknioojpgkiaaGreatDoorProg
import Derived.Test.YtjaknioojpgkiaaGreatDoorQ1
import Derived.Lib.SlTrimSet
import Derived.Test.YtjaknioojpgkiaaGreatDoorQ2
import Derived.RangeFuncBox
import Derived.RangeFuncLeaves
import Derived.OwnWalkIn
import Derived.TacticsInMore
import Derived.LoopNIn
import Derived.LoopIn
import Derived.Maps.AppendAt
/- A tree that is right but for its depth: by its list, and by membership. No condition. -/
namespace Go.Proofs.YtjaknioojpgkiaaGreatDoor
open Go.RowKit

theorem all_mem {l : List Br} {P : Br → Prop} : (∀ i (h : i < l.length), P l[i]) ↔ ∀ b ∈ l, P b := by
  constructor
  · intro h b hb
    obtain ⟨k, hk, rfl⟩ := List.mem_iff_getElem.1 hb
    exact h k hk
  · exact fun h i hi => h _ (List.getElem_mem hi)
theorem sound_iff (t : Tr) : SoundT t ↔ SoundM t := by
  constructor
  · rintro ⟨h0, h1, h2, h3, h4, h5⟩
    obtain ⟨ha, hu, hm⟩ := (alone_iff t.brs).1 h1
    have hp := (all_mem (P := BrPlaced t.brs)).1 h2
    refine ⟨h0, ha, hu, hm, hp, fun b hb => (kidsAre_iff ha _ _).2 ((all_mem (P := fun b => sortI b.kids = kidsOf t.brs b.id)).1 h3 b hb), (kidsAre_iff ha _ _).2 h4, rank_of_deep ha (placed_upM hp) ((all_mem (P := fun b => (deep t.brs t.brs.length b).isSome = true)).1 h5)⟩
  · rintro ⟨h0, ha, hu, hm, hp, hk, hr, r, hrk⟩
    refine ⟨h0, (alone_iff t.brs).2 ⟨ha, hu, hm⟩, (all_mem (P := BrPlaced t.brs)).2 hp, (all_mem (P := fun b => sortI b.kids = kidsOf t.brs b.id)).2 fun b hb => (kidsAre_iff ha _ _).1 (hk b hb), (kidsAre_iff ha _ _).1 hr, (all_mem (P := fun b => (deep t.brs t.brs.length b).isSome = true)).2 fun b hb => deep_full ha hb (deep_of_rank (placed_upM hp) r hrk (r b.id) b hb (Nat.le_refl _))⟩
theorem right_sound {t : Tr} (h : RightT t) : SoundM t := by
  refine (sound_iff t).1 ⟨h.1, h.2.1, h.2.2.1, h.2.2.2.1, h.2.2.2.2.1, fun i hi => ?_⟩
  obtain ⟨d, hd, -⟩ := h.2.2.2.2.2 i hi
  rw [hd]
  rfl
end Go.Proofs.YtjaknioojpgkiaaGreatDoor

/- A tree that is right but for its depth: its units and its lists of children apart; other children leave the units as they are. No condition. -/
namespace Go.Proofs.YtjaknioojpgkiaaGreatDoor
open Go.RowKit

theorem unit_pos {b : Br} (h : UnitOk b) : b.id ≠ 0 := by
  have := within_t.1 h.1
  omega
end Go.Proofs.YtjaknioojpgkiaaGreatDoor

/- A unit and all that are below it, in order: just the units under it. No condition. -/
namespace Go.Proofs.YtjaknioojpgkiaaGreatDoor
open Go.RowKit

theorem deep_some {t : Tr} (h : SoundM t) {b : Br} (hb : b ∈ t.brs) : ∃ d, deep t.brs t.brs.length b = some d ∧ d ≤ t.brs.length := by
  have h2 := (sound_iff t).2 h
  have := (all_mem (P := fun b => (deep t.brs t.brs.length b).isSome = true)).1 h2.2.2.2.2.2 b hb
  obtain ⟨d, hd⟩ := Option.isSome_iff_exists.1 this
  exact ⟨d, hd, deep_le h.asc hb hd⟩
end Go.Proofs.YtjaknioojpgkiaaGreatDoor

/- The table of the elements: what the functions that read it return. No condition. -/
namespace Go.Proofs.YtjaknioojpgkiaaGreatDoor
open Go.RowKit

def isEl (n : Int) : Bool := decide (1 ≤ n ∧ n ≤ 8)
theorem isEl_t {n : Int} (h : isEl n = true) : 1 ≤ n ∧ n ≤ 8 := of_decide_eq_true h
theorem isEl_f {n : Int} (h : isEl n = false) : ¬ (1 ≤ n ∧ n ≤ 8) := of_decide_eq_false h
theorem isEl_cases {n : Int} (h : isEl n = true) : n = 1 ∨ n = 2 ∨ n = 3 ∨ n = 4 ∨ n = 5 ∨ n = 6 ∨ n = 7 ∨ n = 8 := by
  have := isEl_t h; omega

def kind0 : Kind := ⟨⟨#[]⟩, false, 0⟩
def kindTab : List Kind :=
  [kind0, ⟨⟨#[115, 99, 111, 112, 101]⟩, false, 30⟩, ⟨⟨#[104, 105, 115, 116, 111, 114, 121]⟩, true, 14⟩, ⟨⟨#[109, 97, 116, 101, 114, 105, 97, 108]⟩, true, 30⟩,
   ⟨⟨#[99, 111, 110, 100, 105, 116, 105, 111, 110, 115]⟩, true, 30⟩, ⟨⟨#[100, 97, 116, 101, 115]⟩, false, 30⟩, ⟨⟨#[110, 111, 116, 101]⟩, false, 30⟩, ⟨⟨#[111, 114, 100, 101, 114]⟩, false, 6⟩,
   ⟨⟨#[101, 120, 116, 101, 110, 116]⟩, false, 24⟩]
def kindOf (n : Int) : Kind := if isEl n then kindTab.getD n.toNat kind0 else kind0

theorem known_t (n : Int) (w : World) (h : isEl n = true) : Calls Tryz.prog 139 #[.int .i64 n] w fun e w' => e = .returned (.bool true) ∧ w = w' := by
  obtain ⟨h1, h2⟩ := isEl_t h
  clear h
  go_enter Tryz.func139, Tryz.ntmps139
  go_wp2
  go_ret
  exact ⟨rfl, rfl⟩
theorem known_f (n : Int) (w : World) (h : isEl n = false) : Calls Tryz.prog 139 #[.int .i64 n] w fun e w' => e = .returned (.bool false) ∧ w = w' := by
  have h' := isEl_f h
  clear h
  by_cases h1 : 1 ≤ n
  · have h2 : ¬ n ≤ 8 := fun x => h' ⟨h1, x⟩
    clear h'
    go_enter Tryz.func139, Tryz.ntmps139
    go_wp2
    go_ret
    exact ⟨rfl, rfl⟩
  · clear h'
    go_enter Tryz.func139, Tryz.ntmps139
    go_wp2
    go_ret
    exact ⟨rfl, rfl⟩
theorem isElement_t (n : Int) (w : World) (h : isEl n = true) : Calls Tryz.prog 62 #[.int .i64 n] w fun e w' => e = .returned (.bool true) ∧ w = w' := by
  obtain ⟨h1, h2⟩ := isEl_t h
  clear h
  go_enter Tryz.func62, Tryz.ntmps62
  go_wp2
  go_ret
  exact ⟨rfl, rfl⟩
theorem isElement_f (n : Int) (w : World) (h : isEl n = false) : Calls Tryz.prog 62 #[.int .i64 n] w fun e w' => e = .returned (.bool false) ∧ w = w' := by
  have h' := isEl_f h
  clear h
  by_cases h1 : 1 ≤ n
  · have h2 : ¬ n ≤ 8 := fun x => h' ⟨h1, x⟩
    clear h'
    go_enter Tryz.func62, Tryz.ntmps62
    go_wp2
    go_ret
    exact ⟨rfl, rfl⟩
  · clear h'
    go_enter Tryz.func62, Tryz.ntmps62
    go_wp2
    go_ret
    exact ⟨rfl, rfl⟩

set_option maxRecDepth 100000 in
theorem kinds_any (w : World) : Calls Tryz.prog 140 #[] w fun e w' => e = .returned (.agg (kindTab.flatMap Kind.cells).toArray) ∧ Grew w w' := by
  go_enter Tryz.func140, Tryz.ntmps140
  go_wp2_with (refine wpList_store_new rfl 167 _ _ rfl _ _ rfl rfl (by kernel_rfl) (by simp) (by simp [Value.oneCell']) ?_)
  refine bodyPost_ret (v := .agg (kindTab.flatMap Kind.cells).toArray) (results_cell_row rfl _ _ w.heap.size 167 _ (0, 0) _ rfl (heap_alloc_new _ _) Tryz.underlying167 rfl (by kernel_rfl)) rfl ⟨rfl, (Grew.refl w).alloc _⟩

theorem ix1 (w : World) : (Instr.index 167 (.agg (kindTab.flatMap Kind.cells).toArray) (.int .i64 1)).run Tryz.prog w = .ok (kindTab.getD 1 kind0).agg w := by kernel_rfl
theorem ix2 (w : World) : (Instr.index 167 (.agg (kindTab.flatMap Kind.cells).toArray) (.int .i64 2)).run Tryz.prog w = .ok (kindTab.getD 2 kind0).agg w := by kernel_rfl
theorem ix3 (w : World) : (Instr.index 167 (.agg (kindTab.flatMap Kind.cells).toArray) (.int .i64 3)).run Tryz.prog w = .ok (kindTab.getD 3 kind0).agg w := by kernel_rfl
theorem ix4 (w : World) : (Instr.index 167 (.agg (kindTab.flatMap Kind.cells).toArray) (.int .i64 4)).run Tryz.prog w = .ok (kindTab.getD 4 kind0).agg w := by kernel_rfl
theorem ix5 (w : World) : (Instr.index 167 (.agg (kindTab.flatMap Kind.cells).toArray) (.int .i64 5)).run Tryz.prog w = .ok (kindTab.getD 5 kind0).agg w := by kernel_rfl
theorem ix6 (w : World) : (Instr.index 167 (.agg (kindTab.flatMap Kind.cells).toArray) (.int .i64 6)).run Tryz.prog w = .ok (kindTab.getD 6 kind0).agg w := by kernel_rfl
theorem ix7 (w : World) : (Instr.index 167 (.agg (kindTab.flatMap Kind.cells).toArray) (.int .i64 7)).run Tryz.prog w = .ok (kindTab.getD 7 kind0).agg w := by kernel_rfl
theorem ix8 (w : World) : (Instr.index 167 (.agg (kindTab.flatMap Kind.cells).toArray) (.int .i64 8)).run Tryz.prog w = .ok (kindTab.getD 8 kind0).agg w := by kernel_rfl

def kindCells : Array Value := (kindTab.flatMap Kind.cells).toArray
theorem kinds_any' (w : World) : Calls Tryz.prog 140 #[] w fun e w' => e = .returned (.agg kindCells) ∧ Grew w w' := kinds_any w
theorem index_kinds (n : Int) (h : isEl n = true) (w : World) : (Instr.index 167 (.agg kindCells) (.int .i64 n)).run Tryz.prog w = .ok (.agg #[.string (kindOf n).word, .bool (kindOf n).inh, .int .i64 (kindOf n).lev]) w := by
  rcases isEl_cases h with rfl | rfl | rfl | rfl | rfl | rfl | rfl | rfl
  · exact ix1 w
  · exact ix2 w
  · exact ix3 w
  · exact ix4 w
  · exact ix5 w
  · exact ix6 w
  · exact ix7 w
  · exact ix8 w

theorem of_any (n : Int) (w : World) : Calls Tryz.prog 97 #[.int .i64 n] w fun e w' => e = .returned (kindOf n).agg ∧ Grew w w' := by
  by_cases h : isEl n = true
  · have hix := index_kinds n h
    have hk := Lib.hid h
    unfold Kind.agg
    generalize kindOf n = k at hix ⊢
    clear h
    go_enter Tryz.func97, Tryz.ntmps97
    go_wp2_with (first | (go_at_call 139; refine (known_t _ _ hk.out).mono ?_; rintro e w1 ⟨rfl, rfl⟩) | (go_at_call 140; refine (kinds_any' _).mono ?_; rintro e w1 ⟨rfl, hb⟩; have hsz := hb.size; obtain ⟨hc, hf⟩ := hb.cells))
    refine bodyPost_ret (v := .agg #[.string k.word, .bool k.inh, .int .i64 k.lev]) (by simp [results, Tryz.results97, go_sem, hc]) rfl ⟨rfl, ?_⟩
    exact ((((Grew.refl w).alloc _).trans hb).setCell (Nat.le_refl _) _).setCell (Nat.le_refl _) _ |>.setCell (Nat.le_refl _) _
  · have e : kindOf n = kind0 := by simp [kindOf, h]
    rw [e]
    simp only [Bool.not_eq_true] at h
    have hk := Lib.hid h
    clear h e
    go_enter Tryz.func97, Tryz.ntmps97
    go_wp2_with (first | (go_at_call 139; refine (known_f _ _ hk.out).mono ?_; rintro e w1 ⟨rfl, rfl⟩))
    refine bodyPost_ret (v := kind0.agg) (by simp [results, Tryz.results97, go_sem, Kind.agg, kind0]) rfl ⟨rfl, (Grew.refl _).alloc _⟩
end Go.Proofs.YtjaknioojpgkiaaGreatDoor

/- slices.IndexFunc at this program's types: the first place at which the function that is handed over says yes. No condition but that it answers as p does. -/
namespace Go.Proofs.YtjaknioojpgkiaaGreatDoor
open Go.RowKit

set_option maxHeartbeats 1000000 in
/-- slices.IndexFunc at Val. -/
theorem indexFuncV (l : List Val) (p : Val → Bool) (g : Nat) (lb : Array Value) (eg : ∀ args w, (callFunc g args).run Tryz.prog w = .ok (.enter g args) w) (v : Value) (w : World) (hv : SlV w v l)
    (hp : ∀ W x, Grew w W → x ∈ l → Calls Tryz.prog g (#[x.agg] ++ lb) W fun e w' => e = .returned (.bool (p x)) ∧ Grew W w') :
    Calls Tryz.prog 87 #[v, .func (.func g) #[] lb] w fun e w' => e = .returned (.int .i64 (idxP p l)) ∧ Grew w w' := by
  obtain ⟨A, c, rfl, hlc, hc, hr⟩ := hv.open_
  unfold maxLen at hc
  have HR := Lib.hid hr
  have HP := Lib.hid hp
  clear hr hp hv
  go_enter Tryz.func87, Tryz.ntmps87
  go_wp2
  go_loopg [5, 8] l.length (fun gg _ s8 wr => ∃ kk : Nat, kk ≤ l.length ∧ l.length - kk ≤ gg ∧ s8 = .int .i64 kk ∧ Aside (Grew w wr) ∧ Aside (∀ i (hi : i < l.length), i < kk → p l[i] = false))
  case atStart => exact ⟨0, Nat.zero_le _, by omega, rfl, Grew.refl w, fun i hi h => absurd h (Nat.not_lt_zero _)⟩
  case round =>
    obtain ⟨kk, hkk, hg, rfl, BW, M⟩ := hrel
    by_cases hlt : kk < l.length
    · obtain ⟨b, off, rfl, hb, hcell⟩ := HR.out (by omega)
      obtain ⟨c0, c1, c2, c3⟩ := hcell wr BW.out kk hlt
      have hcall := HP.out wr l[kk] BW.out (List.getElem_mem hlt)
      have hltz : (kk : Int) < (l.length : Int) := by omega
      clear hcell
      generalize hy : l[kk] = y at c0 c1 c2 c3 hcall
      have B : Aside (l[kk] = y) := hy
      clear hy
      unfold Val.agg at hcall
      cases hq : p y with
      | true =>
        rw [hq] at hcall
        go_wp2_with (go_at_fn g; refine hcall.mono ?_; rintro e w' ⟨rfl, hb'⟩)
        go_ret
        refine ⟨?_, BW.out.trans hb'⟩
        rw [idxP_hit p l kk hlt (by rw [B.out]; exact hq) M.out]
        rfl
      | false =>
        rw [hq] at hcall
        go_wp2_with (go_at_fn g; refine hcall.mono ?_; rintro e w' ⟨rfl, hb'⟩)
        go_roundg (l.length - (kk + 1))
        case measure => omega
        case rel =>
          refine ⟨kk + 1, by omega, by omega, by go_num, BW.out.trans hb', (show Aside _ from fun i hi h => ?_)⟩
          by_cases e : i = kk
          · subst e
            rw [B.out]; exact hq
          · exact M.out i hi (by omega)
    · have hltz : ¬ (kk : Int) < (l.length : Int) := by omega
      go_wp2
      go_ret
      refine ⟨?_, BW.out⟩
      rw [idxP_miss p l (fun i hi => M.out i hi (by omega))]
      rfl

set_option maxHeartbeats 1000000 in
/-- slices.IndexFunc at ByteArray. -/
theorem indexFuncS (l : List ByteArray) (p : ByteArray → Bool) (g : Nat) (lb : Array Value) (eg : ∀ args w, (callFunc g args).run Tryz.prog w = .ok (.enter g args) w) (v : Value) (w : World) (hv : SlS w v l)
    (hp : ∀ W x, Grew w W → x ∈ l → Calls Tryz.prog g (#[(.string x)] ++ lb) W fun e w' => e = .returned (.bool (p x)) ∧ Grew W w') :
    Calls Tryz.prog 108 #[v, .func (.func g) #[] lb] w fun e w' => e = .returned (.int .i64 (idxP p l)) ∧ Grew w w' := by
  obtain ⟨A, c, rfl, hlc, hc, hr⟩ := hv.open_
  unfold maxLen at hc
  have HR := Lib.hid hr
  have HP := Lib.hid hp
  clear hr hp hv
  go_enter Tryz.func108, Tryz.ntmps108
  go_wp2
  go_loopg [5, 8] l.length (fun gg _ s8 wr => ∃ kk : Nat, kk ≤ l.length ∧ l.length - kk ≤ gg ∧ s8 = .int .i64 kk ∧ Aside (Grew w wr) ∧ Aside (∀ i (hi : i < l.length), i < kk → p l[i] = false))
  case atStart => exact ⟨0, Nat.zero_le _, by omega, rfl, Grew.refl w, fun i hi h => absurd h (Nat.not_lt_zero _)⟩
  case round =>
    obtain ⟨kk, hkk, hg, rfl, BW, M⟩ := hrel
    by_cases hlt : kk < l.length
    · obtain ⟨b, off, rfl, hb, hcell⟩ := HR.out (by omega)
      obtain c0 := hcell wr BW.out kk hlt
      have hcall := HP.out wr l[kk] BW.out (List.getElem_mem hlt)
      have hltz : (kk : Int) < (l.length : Int) := by omega
      clear hcell
      generalize hy : l[kk] = y at c0 hcall
      have B : Aside (l[kk] = y) := hy
      clear hy
      cases hq : p y with
      | true =>
        rw [hq] at hcall
        go_wp2_with (go_at_fn g; refine hcall.mono ?_; rintro e w' ⟨rfl, hb'⟩)
        go_ret
        refine ⟨?_, BW.out.trans hb'⟩
        rw [idxP_hit p l kk hlt (by rw [B.out]; exact hq) M.out]
        rfl
      | false =>
        rw [hq] at hcall
        go_wp2_with (go_at_fn g; refine hcall.mono ?_; rintro e w' ⟨rfl, hb'⟩)
        go_roundg (l.length - (kk + 1))
        case measure => omega
        case rel =>
          refine ⟨kk + 1, by omega, by omega, by go_num, BW.out.trans hb', (show Aside _ from fun i hi h => ?_)⟩
          by_cases e : i = kk
          · subst e
            rw [B.out]; exact hq
          · exact M.out i hi (by omega)
    · have hltz : ¬ (kk : Int) < (l.length : Int) := by omega
      go_wp2
      go_ret
      refine ⟨?_, BW.out⟩
      rw [idxP_miss p l (fun i hi => M.out i hi (by omega))]
      rfl

end Go.Proofs.YtjaknioojpgkiaaGreatDoor

/- Word, Inherited, Allowed and Number of package element and of the reference: what they return. No condition. -/
namespace Go.Proofs.YtjaknioojpgkiaaGreatDoor
open Go.RowKit

@[go_sem] theorem field_kind0 (a b c : Value) (w : World) : (Instr.field 124 (.agg #[a, b, c]) 0).run Tryz.prog w = .ok a w := by kernel_rfl
@[go_sem] theorem field_kind1 (a b c : Value) (w : World) : (Instr.field 124 (.agg #[a, b, c]) 1).run Tryz.prog w = .ok b w := by kernel_rfl
@[go_sem] theorem field_kind2 (a b c : Value) (w : World) : (Instr.field 124 (.agg #[a, b, c]) 2).run Tryz.prog w = .ok c w := by kernel_rfl
set_option maxRecDepth 100000 in
theorem word_any (n : Int) (w : World) : Calls Tryz.prog 35 #[.int .i64 n] w fun e w' => e = .returned (.string (kindOf n).word) ∧ Grew w w' := by
  have ho := of_any n
  unfold Kind.agg at ho
  generalize kindOf n = k at ho ⊢
  have HO := Lib.hid ho
  clear ho
  go_enter Tryz.func35, Tryz.ntmps35
  go_wp2_with (first | (go_at_call 97; refine (HO.out _).mono ?_; rintro e w1 ⟨rfl, hb⟩))
  go_ret
  exact ⟨rfl, hb⟩
set_option maxRecDepth 100000 in
theorem inherited_any (n : Int) (w : World) : Calls Tryz.prog 44 #[.int .i64 n] w fun e w' => e = .returned (.bool (kindOf n).inh) ∧ Grew w w' := by
  have ho := of_any n
  unfold Kind.agg at ho
  generalize kindOf n = k at ho ⊢
  have HO := Lib.hid ho
  clear ho
  go_enter Tryz.func44, Tryz.ntmps44
  go_wp2_with (first | (go_at_call 97; refine (HO.out _).mono ?_; rintro e w1 ⟨rfl, hb⟩))
  go_ret
  exact ⟨rfl, hb⟩

/-- Whether an element can stand at a level. -/
def allowedF (n lv : Int) : Bool := decide (1 ≤ lv ∧ lv ≤ 4) && decide ((kindOf n).lev / 2 ^ lv.toNat % 2 = 1)
theorem lev_cases (n : Int) : (kindOf n).lev = 0 ∨ (kindOf n).lev = 6 ∨ (kindOf n).lev = 14 ∨ (kindOf n).lev = 24 ∨ (kindOf n).lev = 30 := by
  by_cases h : isEl n = true
  · rcases isEl_cases h with rfl | rfl | rfl | rfl | rfl | rfl | rfl | rfl <;> decide
  · exact .inl (by simp [kindOf, h, kind0])
set_option maxRecDepth 100000 in
set_option maxHeartbeats 1000000 in
theorem allowed_any (n lv : Int) (w : World) : Calls Tryz.prog 110 #[.int .i64 n, .int .i64 lv] w fun e w' => e = .returned (.bool (allowedF n lv)) ∧ Grew w w' := by
  by_cases h1 : 1 ≤ lv
  · by_cases h2 : lv ≤ 4
    · have hl := lev_cases n
      have hv : lv = 1 ∨ lv = 2 ∨ lv = 3 ∨ lv = 4 := by omega
      have ho := of_any n
      unfold Kind.agg at ho
      unfold allowedF
      generalize kindOf n = k at ho hl ⊢
      obtain ⟨ww, hh, L⟩ := k
      dsimp only at ho hl ⊢
      have HO := Lib.hid ho
      clear ho h1 h2
      rcases hv with rfl | rfl | rfl | rfl <;> rcases hl with rfl | rfl | rfl | rfl | rfl <;>
      · go_enter Tryz.func110, Tryz.ntmps110
        go_wp2_with (first | (go_at_call 97; refine (HO.out _).mono ?_; rintro e w1 ⟨rfl, hb⟩))
        go_ret
        exact ⟨rfl, hb⟩
    · have e : allowedF n lv = false := by simp only [allowedF, Bool.and_eq_false_iff, decide_eq_false_iff_not]; omega
      rw [e]
      clear e
      go_enter Tryz.func110, Tryz.ntmps110
      go_wp2
      go_ret
      exact ⟨rfl, Grew.refl w⟩
  · have e : allowedF n lv = false := by simp only [allowedF, Bool.and_eq_false_iff, decide_eq_false_iff_not]; omega
    rw [e]
    clear e
    go_enter Tryz.func110, Tryz.ntmps110
    go_wp2
    go_ret
    exact ⟨rfl, Grew.refl w⟩

def kindWords : List ByteArray := kindTab.map Kind.word
theorem words_any (w : World) : Calls Tryz.prog 130 #[] w fun e w' => e = .returned (.slice (some ⟨w.heap.size, 0, none⟩) 9 9) ∧ (∀ i (hi : i < kindWords.length), w'.cell? ⟨w.heap.size, i, none⟩ = some (.string kindWords[i])) ∧ w.heap.size < w'.heap.size ∧ Grew w w' := by
  go_enter Tryz.func130, Tryz.ntmps130
  go_wp2
  go_ret
  refine ⟨rfl, fun i hi => ?_, by simp, (Grew.refl w).alloc _⟩
  have hi' : i < 9 := hi
  have h : i = 0 ∨ i = 1 ∨ i = 2 ∨ i = 3 ∨ i = 4 ∨ i = 5 ∨ i = 6 ∨ i = 7 ∨ i = 8 := by omega
  rcases h with rfl | rfl | rfl | rfl | rfl | rfl | rfl | rfl | rfl <;> simp [kindWords, kindTab, kind0]
theorem kindTab_word (i : Nat) (h1 : 1 ≤ i) (h8 : i < kindWords.length) : kindWords[i] = (kindOf (i : Int)).word := by
  have h8' : i < 9 := h8
  have h : i = 1 ∨ i = 2 ∨ i = 3 ∨ i = 4 ∨ i = 5 ∨ i = 6 ∨ i = 7 ∨ i = 8 := by omega
  rcases h with rfl | rfl | rfl | rfl | rfl | rfl | rfl | rfl <;> rfl
theorem refWord_any (n : Int) (w : World) : Calls Tryz.prog 81 #[.int .i64 n] w fun e w' => e = .returned (.string (kindOf n).word) ∧ Grew w w' := by
  by_cases h : isEl n = true
  · obtain ⟨h1, h8⟩ := isEl_t h
    obtain ⟨i, rfl⟩ := Int.eq_ofNat_of_zero_le (a := n) (by omega)
    have hi : i < kindWords.length := by show i < 9; omega
    have HW := Lib.hid (kindTab_word i (by omega) hi)
    have hk := Lib.hid h
    clear h
    go_enter Tryz.func81, Tryz.ntmps81
    go_wp2_with (first | (go_at_call 62; refine (isElement_t _ _ hk.out).mono ?_; rintro e w1 ⟨rfl, rfl⟩) | (go_at_call 130; refine (words_any _).mono ?_; rintro e w1 ⟨rfl, hcell, hlt, hb⟩; have hci := hcell i hi; rw [HW.out] at hci; clear hcell))
    go_ret
    exact ⟨rfl, hb⟩
  · have e : kindOf n = kind0 := by simp [kindOf, h]
    rw [e]
    simp only [Bool.not_eq_true] at h
    have hk := Lib.hid h
    clear h e
    go_enter Tryz.func81, Tryz.ntmps81
    go_wp2_with (first | (go_at_call 62; refine (isElement_f _ _ hk.out).mono ?_; rintro e w1 ⟨rfl, rfl⟩))
    go_ret
    exact ⟨rfl, Grew.refl _⟩
def inhE (n : Int) : Bool := n == 2 || n == 3 || n == 4
theorem inhF_eq (n : Int) : (kindOf n).inh = inhE n := by
  by_cases h : isEl n = true
  · rcases isEl_cases h with rfl | rfl | rfl | rfl | rfl | rfl | rfl | rfl <;> decide
  · have h' := isEl_f (by simpa using h)
    have e : kindOf n = kind0 := by simp [kindOf, h]
    rw [e]
    symm
    simp only [inhE, Bool.or_eq_false_iff, beq_eq_false_iff_ne, kind0]
    omega
theorem refInherited_any (n : Int) (w : World) : Calls Tryz.prog 66 #[.int .i64 n] w fun e w' => e = .returned (.bool (kindOf n).inh) ∧ w = w' := by
  rw [inhF_eq]
  by_cases h2 : n = 2
  · subst h2
    go_enter Tryz.func66, Tryz.ntmps66
    go_wp2
    go_ret
    exact ⟨rfl, rfl⟩
  by_cases h3 : n = 3
  · subst h3
    go_enter Tryz.func66, Tryz.ntmps66
    go_wp2
    go_ret
    exact ⟨rfl, rfl⟩
  have e2 : (n == 2) = false := by simpa using h2
  have e3 : (n == 3) = false := by simpa using h3
  unfold inhE
  rw [e2, e3]
  simp only [Bool.false_or]
  go_enter Tryz.func66, Tryz.ntmps66
  go_wp2
  all_goals (go_ret; exact ⟨rfl, rfl⟩)
theorem allowed_not (n lv : Int) (h : isEl n = false ∨ ¬ (1 ≤ lv ∧ lv ≤ 4)) : allowedF n lv = false := by
  rcases h with h | h
  · have e : kindOf n = kind0 := by simp [kindOf, h]
    simp only [allowedF, e, kind0, Int.zero_ediv]
    simp
  · simp only [allowedF, Bool.and_eq_false_iff, decide_eq_false_iff_not]; exact .inl h
set_option maxHeartbeats 2000000 in
theorem refAllowed_any (n lv : Int) (w : World) : Calls Tryz.prog 63 #[.int .i64 n, .int .i64 lv] w fun e w' => e = .returned (.bool (allowedF n lv)) ∧ w = w' := by
  by_cases h : isEl n = true
  · by_cases h1 : 1 ≤ lv
    · by_cases h4 : lv ≤ 4
      · have hv : lv = 1 ∨ lv = 2 ∨ lv = 3 ∨ lv = 4 := by omega
        have hk := Lib.hid h
        have hn := isEl_cases h
        clear h h1 h4
        rcases hv with rfl | rfl | rfl | rfl <;> rcases hn with rfl | rfl | rfl | rfl | rfl | rfl | rfl | rfl <;>
        · go_enter Tryz.func63, Tryz.ntmps63
          go_wp2_with (first | (go_at_call 62; refine (isElement_t _ _ hk.out).mono ?_; rintro e w1 ⟨rfl, rfl⟩))
          go_ret
          exact ⟨rfl, rfl⟩
      · rw [allowed_not n lv (.inr (by omega))]
        have hk := Lib.hid h
        clear h
        go_enter Tryz.func63, Tryz.ntmps63
        go_wp2_with (first | (go_at_call 62; refine (isElement_t _ _ hk.out).mono ?_; rintro e w1 ⟨rfl, rfl⟩))
        go_ret
        exact ⟨rfl, rfl⟩
    · rw [allowed_not n lv (.inr (by omega))]
      have hk := Lib.hid h
      clear h
      go_enter Tryz.func63, Tryz.ntmps63
      go_wp2_with (first | (go_at_call 62; refine (isElement_t _ _ hk.out).mono ?_; rintro e w1 ⟨rfl, rfl⟩))
      go_ret
      exact ⟨rfl, rfl⟩
  · simp only [Bool.not_eq_true] at h
    rw [allowed_not n lv (.inl h)]
    have hk := Lib.hid h
    clear h
    go_enter Tryz.func63, Tryz.ntmps63
    go_wp2_with (first | (go_at_call 62; refine (isElement_f _ _ hk.out).mono ?_; rintro e w1 ⟨rfl, rfl⟩))
    go_ret
    exact ⟨rfl, rfl⟩

end Go.Proofs.YtjaknioojpgkiaaGreatDoor

/- Plain facts on texts and languages: no program in sight. No condition. -/
namespace Go.Proofs.YtjaknioojpgkiaaGreatDoor

theorem dropW_self {p : UInt8 → Bool} {l : List UInt8} : l.dropWhile p = l ↔ ∀ b, l.head? = some b → p b = false := by
  cases l with
  | nil => simp
  | cons x r =>
    rw [List.dropWhile_cons]
    constructor
    · intro h b hb
      simp at hb
      subst hb
      by_cases hx : p x = true
      · rw [if_pos hx] at h
        have h1 := (List.dropWhile_sublist p (l := r)).length_le
        rw [h] at h1
        simp at h1
        omega
      · simpa using hx
    · intro h
      have := h x rfl
      simp [this]
theorem dropW_len {p : UInt8 → Bool} (l : List UInt8) : (l.dropWhile p).length ≤ l.length := (List.dropWhile_sublist p).length_le

theorem trim_self (l cs : List UInt8) : Lib.trimS l cs = l ↔ (∀ b, l.head? = some b → cs.contains b = false) ∧ (∀ b, l.getLast? = some b → cs.contains b = false) := by
  unfold Lib.trimS Lib.trimLeftS Lib.trimRightS
  have hr : (l.reverse.dropWhile (cs.contains ·)).reverse = l ↔ ∀ b, l.getLast? = some b → cs.contains b = false := by
    rw [← List.reverse_inj, List.reverse_reverse, dropW_self, List.head?_reverse]
  constructor
  · intro h
    have h1 := dropW_len (p := (cs.contains ·)) (l.reverse.dropWhile (cs.contains ·)).reverse
    have h2 := dropW_len (p := (cs.contains ·)) l.reverse
    rw [h] at h1
    simp at h1 h2
    have e : l.reverse.dropWhile (cs.contains ·) = l.reverse := (List.dropWhile_suffix _).eq_of_length (by simp; omega)
    have e' : (l.reverse.dropWhile (cs.contains ·)).reverse = l := by rw [e, List.reverse_reverse]
    refine ⟨?_, hr.1 e'⟩
    rw [e'] at h
    exact dropW_self.1 h
  · rintro ⟨h1, h2⟩
    rw [hr.2 h2]
    exact dropW_self.2 h1

theorem dropW_nil {p : UInt8 → Bool} {l : List UInt8} : l.dropWhile p = [] ↔ l.all p = true := by
  induction l with
  | nil => simp
  | cons x r ih =>
    rw [List.dropWhile_cons]
    by_cases hx : p x = true
    · simp [hx, ih]
    · simp [hx]
theorem dropW_head {p : UInt8 → Bool} (l : List UInt8) (b : UInt8) (h : (l.dropWhile p).head? = some b) : p b = false := by
  induction l with
  | nil => simp at h
  | cons x r ih =>
    rw [List.dropWhile_cons] at h
    by_cases hx : p x = true
    · rw [if_pos hx] at h; exact ih h
    · rw [if_neg hx] at h
      simp at h
      subst h
      simpa using hx

theorem trim_nil (l cs : List UInt8) : Lib.trimS l cs = [] ↔ l.all (cs.contains ·) = true := by
  unfold Lib.trimS Lib.trimLeftS Lib.trimRightS
  constructor
  · intro h
    rw [dropW_nil, List.all_reverse] at h
    cases hd : l.reverse.dropWhile (cs.contains ·) with
    | nil => rw [dropW_nil, List.all_reverse] at hd; exact hd
    | cons x r =>
      have h1 := dropW_head l.reverse x (by rw [hd]; rfl)
      rw [hd] at h
      have h2 : cs.contains x = true := by
        rw [List.all_eq_true] at h
        exact h x (by simp)
      rw [h1] at h2
      cases h2
  · intro h
    rw [← List.all_reverse] at h
    rw [dropW_nil.2 h]
    rfl

/-- A byte that a text can hold. -/
def okT (b : UInt8) : Bool := b == 10 || (decide (32 ≤ b) && decide (b ≤ 126))
def isTextF (l : List UInt8) : Bool := decide (1 ≤ l.length ∧ l.length ≤ 4096) && decide (Lib.trimS l [32, 10] = l) && l.all okT
def isLow (b : UInt8) : Bool := decide (97 ≤ b) && decide (b ≤ 122)
def isLangF (l : List UInt8) : Bool := decide (l.length = 2) && l.all isLow

def azL : List UInt8 := [97, 98, 99, 100, 101, 102, 103, 104, 105, 106, 107, 108, 109, 110, 111, 112, 113, 114, 115, 116, 117, 118, 119, 120, 121, 122]
theorem az_fin : ∀ n : Fin 256, azL.contains (UInt8.ofFin n) = isLow (UInt8.ofFin n) := by decide +kernel
theorem az_low (b : UInt8) : azL.contains b = isLow b := az_fin b.toFin
theorem lang_trim (l : List UInt8) (h : l.length = 2) : decide (Lib.trimS l azL = []) = isLangF l := by
  unfold isLangF
  rw [show decide (l.length = 2) = true by simpa using h, Bool.true_and]
  have e : l.all (azL.contains ·) = l.all isLow := by congr 1; funext b; exact az_low b
  rw [Bool.eq_iff_iff, decide_eq_true_iff, trim_nil, e]
theorem lang_len (l : List UInt8) (h : l.length ≠ 2) : isLangF l = false := by simp [isLangF, h]
theorem lang_two (a b : UInt8) : isLangF [a, b] = (isLow a && isLow b) := by simp [isLangF]
/-- How the reference says it. -/
theorem text_ref (l : List UInt8) (h1 : 1 ≤ l.length) (h2 : l.length ≤ 4096) (a z : UInt8) (ha : l.head? = some a) (hz : l.getLast? = some z) (hall : l.all okT = true) :
    isTextF l = (!(a == 32) && !(a == 10) && !(z == 32) && !(z == 10)) := by
  unfold isTextF
  rw [hall, show decide (1 ≤ l.length ∧ l.length ≤ 4096) = true by simp [h1, h2], Bool.true_and, Bool.and_true, Bool.eq_iff_iff, decide_eq_true_iff, trim_self]
  constructor
  · rintro ⟨h, k⟩
    have := h a ha
    have := k z hz
    simp_all
  · intro h
    refine ⟨fun b hb => ?_, fun b hb => ?_⟩
    · rw [ha] at hb; cases hb; simp_all
    · rw [hz] at hb; cases hb; simp_all
theorem text_bad (l : List UInt8) (h : l.all okT = false) : isTextF l = false := by simp [isTextF, h]
theorem text_len (l : List UInt8) (h : ¬ (1 ≤ l.length ∧ l.length ≤ 4096)) : isTextF l = false := by
  simp only [isTextF, Bool.and_eq_false_iff, decide_eq_false_iff_not]
  exact .inl (.inl h)
theorem text_trim (l : List UInt8) (h : Lib.trimS l [32, 10] ≠ l) : isTextF l = false := by simp [isTextF, h]
theorem text_all (l : List UInt8) (h1 : 1 ≤ l.length) (h2 : l.length ≤ 4096) (h : Lib.trimS l [32, 10] = l) : isTextF l = l.all okT := by simp [isTextF, h1, h2, h]
end Go.Proofs.YtjaknioojpgkiaaGreatDoor

/- Texts and languages: what the functions that check them return. No condition. -/
namespace Go.Proofs.YtjaknioojpgkiaaGreatDoor
open Go.RowKit

theorem azBA : (⟨#[97, 98, 99, 100, 101, 102, 103, 104, 105, 106, 107, 108, 109, 110, 111, 112, 113, 114, 115, 116, 117, 118, 119, 120, 121, 122]⟩ : ByteArray).data.toList = azL := rfl
theorem ascii_az : ∀ (j : Nat) b, azL[j]? = some b → b.toNat < 128 := by
  intro j b h
  have hm := List.mem_of_getElem? h
  have ha : azL.all (fun b => decide (b.toNat < 128)) = true := by decide
  rw [List.all_eq_true] at ha
  simpa using ha b hm
theorem language_any (s : ByteArray) (w : World) : Calls Tryz.prog 194 #[.string s] w fun e w' => e = .returned (.bool (isLangF s.data.toList)) ∧ Grew w w' := by
  by_cases h : s.size = 2
  · have hl : s.data.toList.length = 2 := by rw [← h]; cases s; rfl
    rw [← lang_trim _ hl]
    have hb : ((s.size : Int) == 2) = true := by simp; omega
    have hs : s.size ≤ 9223372036854775807 := by omega
    have ht := fun w => Tryz.strings_Trim s ⟨#[97, 98, 99, 100, 101, 102, 103, 104, 105, 106, 107, 108, 109, 110, 111, 112, 113, 114, 115, 116, 117, 118, 119, 120, 121, 122]⟩ w hs (by decide) ascii_az
    rw [azBA] at ht
    generalize Lib.trimS s.data.toList azL = T at ht ⊢
    have HT := Lib.hid ht
    clear ht hl h
    go_enter Tryz.func194, Tryz.ntmps194
    go_wp2_with (first | (go_at_call 123; refine (HT.out _).mono ?_; rintro e w1 ⟨rfl, hg⟩))
    go_ret
    exact ⟨by cases T <;> rfl, hg⟩
  · have hl : s.data.toList.length ≠ 2 := by intro e; apply h; rw [← e]; cases s; rfl
    rw [lang_len _ hl]
    have hb : ((s.size : Int) == 2) = false := by simp; omega
    clear hl h
    go_enter Tryz.func194, Tryz.ntmps194
    go_wp2
    go_ret
    exact ⟨rfl, Grew.refl w⟩
theorem languages1_any (s : ByteArray) (w : World) : Calls Tryz.prog 235 #[.string s] w fun e w' => e = .returned (.bool (!isLangF s.data.toList)) ∧ Grew w w' := by
  have hl := language_any s
  generalize isLangF s.data.toList = b at hl ⊢
  have HL := Lib.hid hl
  clear hl
  go_enter Tryz.func235, Tryz.ntmps235
  go_wp2_with (first | (go_at_call 194; refine (HL.out _).mono ?_; rintro e w1 ⟨rfl, hg⟩))
  go_ret
  exact ⟨rfl, hg⟩

theorem size_dataE (s : ByteArray) : s.data.toList.length = s.size := by cases s; rfl
theorem toList_dataE (s : ByteArray) : s.toList = s.data.toList := ByteArray.toList_eq s
theorem okB_int (b : UInt8) : okT b = true ↔ (b.toNat : Int) = 10 ∨ 32 ≤ (b.toNat : Int) ∧ (b.toNat : Int) ≤ 126 := by
  simp only [okT, Bool.or_eq_true, beq_iff_eq, Bool.and_eq_true, decide_eq_true_iff, UInt8.le_iff_toNat_le, ← UInt8.toNat_inj]
  have h1 : (10 : UInt8).toNat = 10 := rfl
  have h2 : (32 : UInt8).toNat = 32 := rfl
  have h3 : (126 : UInt8).toNat = 126 := rfl
  omega
theorem all_take (p : UInt8 → Bool) (s : ByteArray) (h : ∀ j (hj : j < s.size), p s[j] = true) : s.data.toList.all p = true := by
  rw [List.all_eq_true]
  intro b hb
  obtain ⟨j, hj, rfl⟩ := List.getElem_of_mem hb
  exact h j (by rw [size_dataE] at hj; exact hj)
theorem all_bad (p : UInt8 → Bool) (s : ByteArray) (j : Nat) (hj : j < s.size) (h : p s[j] = false) : s.data.toList.all p = false := by
  rw [Bool.eq_false_iff]
  intro ha
  rw [List.all_eq_true] at ha
  have := ha s[j] (by have := List.getElem_mem (l := s.data.toList) (n := j) (by rw [size_dataE]; exact hj); exact this)
  rw [h] at this
  cases this
theorem ascii_edge : ∀ (j : Nat) b, (⟨#[32, 10]⟩ : ByteArray).data.toList[j]? = some b → b.toNat < 128 := by
  intro j b h
  have hm := List.mem_of_getElem? h
  simp at hm
  rcases hm with rfl | rfl <;> decide

set_option maxHeartbeats 1000000 in
theorem isText_any (s : ByteArray) (w : World) : Calls Tryz.prog 112 #[.string s] w fun e w' => e = .returned (.bool (isTextF s.data.toList)) ∧ Grew w w' := by
  have hsd := size_dataE s
  by_cases h0 : s.size = 0
  · rw [text_len _ (by omega)]
    have he : s.toList.isEmpty = true := by rw [toList_dataE, List.isEmpty_iff]; exact List.eq_nil_of_length_eq_zero (by omega)
    clear hsd
    go_enter Tryz.func112, Tryz.ntmps112
    go_wp2
    go_ret
    exact ⟨rfl, Grew.refl w⟩
  have he : s.toList.isEmpty = false := by rw [toList_dataE, Bool.eq_false_iff]; intro h; rw [List.isEmpty_iff] at h; rw [h] at hsd; simp at hsd; omega
  by_cases h1 : 4096 < s.size
  · rw [text_len _ (by omega)]
    have h1' : (4096 : Int) < (s.size : Int) := by omega
    clear hsd
    go_enter Tryz.func112, Tryz.ntmps112
    go_wp2
    go_ret
    exact ⟨rfl, Grew.refl w⟩
  have h1' : ¬ (4096 : Int) < (s.size : Int) := by omega
  have ht := fun w => Tryz.strings_Trim s ⟨#[32, 10]⟩ w (by omega) (by decide) ascii_edge
  by_cases h2 : Lib.trimS s.data.toList [32, 10] = s.data.toList
  · have ha := text_all _ (by omega) (by omega) h2
    rw [ha]
    generalize hBe : s.data.toList.all okT = B
    have HB := Lib.hid hBe
    clear hBe
    have ht' : ∀ w, Calls Tryz.prog 123 #[.string s, .string ⟨#[32, 10]⟩] w fun e w' => e = .returned (.string s) ∧ Grew w w' := fun w => by
      refine (ht w).mono ?_
      rintro e w' ⟨rfl, hg⟩
      refine ⟨?_, hg⟩
      rw [show (⟨#[32, 10]⟩ : ByteArray).data.toList = [32, 10] from rfl, h2]
    have HT := Lib.hid ht'
    clear ht ht' h2 ha hsd h0 h1
    have hs : s.size ≤ 4096 := by omega
    go_enter Tryz.func112, Tryz.ntmps112
    go_wp2_with (first | (go_at_call 123; refine (HT.out _).mono ?_; rintro e w1 ⟨rfl, hg⟩))
    go_loop [3, 19] (fun _ i => ∃ k : Nat, k ≤ s.size ∧ i = .int .i64 k ∧ Aside (∀ j (hj : j < s.size), j < k → okT s[j] = true)) (fun _ i => s.size - (intOf i).toNat)
    case atStart => exact ⟨0, Nat.zero_le _, rfl, fun j hj h => absurd h (Nat.not_lt_zero _)⟩
    case round =>
      obtain ⟨k, hk, rfl, M⟩ := hrel
      by_cases hlt : k < s.size
      · have hok := okB_int s[k]
        cases hq : okT s[k] with
        | true =>
          have Hq : Aside (okT s[k] = true) := hq
          rw [hq] at hok
          have hok' := hok.1 rfl
          clear hok hq
          by_cases hx : (s[k].toNat : Int) = 10
          · have hcb : ((s[k].toNat : Int) != 10) = false := by simpa using hx
            clear hx hok'
            go_wp2
            go_round
            case rel =>
              refine ⟨k + 1, by omega, by go_num, fun j hj h => ?_⟩
              by_cases e : j = k
              · subst e; exact Hq.out
              · exact M.out j hj (by omega)
            case measure => simp [intOf]; omega
          · have hcb : ((s[k].toNat : Int) != 10) = true := by simpa using hx
            have hc1 : 32 ≤ (s[k].toNat : Int) := by omega
            have hc2 : (s[k].toNat : Int) ≤ 126 := by omega
            clear hx hok'
            go_wp2
            go_round
            case rel =>
              refine ⟨k + 1, by omega, by go_num, fun j hj h => ?_⟩
              by_cases e : j = k
              · subst e; exact Hq.out
              · exact M.out j hj (by omega)
            case measure => simp [intOf]; omega
        | false =>
          have Hb := Lib.hid (HB.out.symm.trans (all_bad okT s k hlt hq))
          have hn : ¬ ((s[k].toNat : Int) = 10 ∨ 32 ≤ (s[k].toNat : Int) ∧ (s[k].toNat : Int) ≤ 126) := fun h => by rw [hok.2 h] at hq; cases hq
          have hcb : ((s[k].toNat : Int) != 10) = true := by rw [bne_iff_ne]; omega
          by_cases h32 : (s[k].toNat : Int) < 32
          · clear hok hn hq
            go_wp2
            go_ret
            exact ⟨ret_bool Hb.out.symm, hg⟩
          · have h126 : (126 : Int) < (s[k].toNat : Int) := by omega
            clear hok hn hq
            go_wp2
            go_ret
            exact ⟨ret_bool Hb.out.symm, hg⟩
      · have Ha := Lib.hid (HB.out.symm.trans (all_take okT s (fun j hj => M.out j hj (by omega))))
        go_wp2
        go_ret
        exact ⟨ret_bool Ha.out.symm, hg⟩
  · rw [text_trim _ h2]
    have hne : (s.toList == Lib.trimS s.data.toList [32, 10]) = false := by rw [toList_dataE, beq_eq_false_iff_ne]; exact fun e => h2 e.symm
    rw [show (⟨#[32, 10]⟩ : ByteArray).data.toList = [32, 10] from rfl] at ht
    generalize Lib.trimS s.data.toList [32, 10] = T at ht hne
    have HT := Lib.hid ht
    clear ht h2 hsd h0 h1
    go_enter Tryz.func112, Tryz.ntmps112
    go_wp2_with (first | (go_at_call 123; refine (HT.out _).mono ?_; rintro e w1 ⟨rfl, hg⟩))
    go_ret
    exact ⟨rfl, hg⟩

theorem isLow_int (b : UInt8) : isLow b = true ↔ 97 ≤ (b.toNat : Int) ∧ (b.toNat : Int) ≤ 122 := by
  simp only [isLow, Bool.and_eq_true, decide_eq_true_iff, UInt8.le_iff_toNat_le]
  have h1 : (97 : UInt8).toNat = 97 := rfl
  have h2 : (122 : UInt8).toNat = 122 := rfl
  omega
theorem two_bytes (s : ByteArray) (h : s.size = 2) : s.data.toList = [s[0], s[1]] := by
  obtain ⟨⟨l⟩⟩ := s
  match l, h with
  | [a, b], _ => rfl
set_option maxHeartbeats 1000000 in
theorem isLanguage_any (s : ByteArray) (w : World) : Calls Tryz.prog 75 #[.string s] w fun e w' => e = .returned (.bool (isLangF s.data.toList)) ∧ w = w' := by
  by_cases h : s.size = 2
  · have hb : ((s.size : Int) == 2) = true := by simp; omega
    have hz : 1 < s.size := by omega
    have hz0 : 0 < s.size := by omega
    have e : isLangF s.data.toList = decide (97 ≤ ((s[0]'hz0).toNat : Int) ∧ ((s[0]'hz0).toNat : Int) ≤ 122 ∧ 97 ≤ ((s[1]'hz).toNat : Int) ∧ ((s[1]'hz).toNat : Int) ≤ 122) := by
      rw [two_bytes s h, lang_two, Bool.eq_iff_iff, decide_eq_true_iff, Bool.and_eq_true, isLow_int, isLow_int]
      omega
    clear h
    generalize isLangF s.data.toList = B at e ⊢
    have He := Lib.hid e
    clear e
    go_enter Tryz.func75, Tryz.ntmps75
    go_wp2
    all_goals
      go_ret
      exact ⟨ret_bool (by rw [He.out]; first | (symm; rw [decide_eq_true_iff]; omega) | (symm; rw [decide_eq_false_iff_not]; omega) | exact decide_eq_decide.2 (by omega)), rfl⟩
  · rw [lang_len _ (by rw [size_dataE]; exact h)]
    have hb : ((s.size : Int) == 2) = false := by simp; omega
    go_enter Tryz.func75, Tryz.ntmps75
    go_wp2
    go_ret
    exact ⟨rfl, rfl⟩

set_option maxHeartbeats 2000000 in
theorem refIsText_any (s : ByteArray) (w : World) : Calls Tryz.prog 65 #[.string s] w fun e w' => e = .returned (.bool (isTextF s.data.toList)) ∧ Grew w w' := by
  have hsd := size_dataE s
  by_cases h0 : s.size < 1
  · rw [text_len _ (by omega)]
    have h0' : (s.size : Int) < 1 := by omega
    clear hsd
    go_enter Tryz.func65, Tryz.ntmps65
    go_wp2
    go_ret
    exact ⟨rfl, Grew.refl w⟩
  have h0' : ¬ (s.size : Int) < 1 := by omega
  by_cases h1 : 4096 < s.size
  · rw [text_len _ (by omega)]
    have h1' : (4096 : Int) < (s.size : Int) := by omega
    clear hsd
    go_enter Tryz.func65, Tryz.ntmps65
    go_wp2
    go_ret
    exact ⟨rfl, Grew.refl w⟩
  have h1' : ¬ (4096 : Int) < (s.size : Int) := by omega
  generalize hBe : isTextF s.data.toList = B
  have HB := Lib.hid hBe
  clear hBe
  have hs : s.size ≤ 4096 := by omega
  have hs1 : 1 ≤ s.size := by omega
  clear h0 h1 hsd
  go_enter Tryz.func65, Tryz.ntmps65
  go_wp2
  go_loop [3] (fun i => ∃ k : Nat, k ≤ s.size ∧ i = .int .i64 k ∧ Aside (∀ j (hj : j < s.size), j < k → okT s[j] = true)) (fun i => s.size - (intOf i).toNat)
  case atStart => exact ⟨0, Nat.zero_le _, rfl, fun j hj h => absurd h (Nat.not_lt_zero _)⟩
  case round =>
    obtain ⟨k, hk, rfl, M⟩ := hrel
    by_cases hlt : k < s.size
    · have hok := okB_int s[k]
      cases hq : okT s[k] with
      | true =>
        have Hq : Aside (okT s[k] = true) := hq
        rw [hq] at hok
        have hok' := hok.1 rfl
        clear hok hq
        by_cases hx : (s[k].toNat : Int) = 10
        · have hcb : ((s[k].toNat : Int) != 10) = false := by simpa using hx
          clear hx hok'
          go_wp2
          go_round
          case rel =>
            refine ⟨k + 1, by omega, by go_num, fun j hj h => ?_⟩
            by_cases e : j = k
            · subst e; exact Hq.out
            · exact M.out j hj (by omega)
          case measure => simp [intOf]; omega
        · have hcb : ((s[k].toNat : Int) != 10) = true := by simpa using hx
          have hc1 : 32 ≤ (s[k].toNat : Int) := by omega
          have hc2 : (s[k].toNat : Int) ≤ 126 := by omega
          clear hx hok'
          go_wp2
          all_goals first | (exfalso; omega) | skip
          go_round
          case rel =>
            refine ⟨k + 1, by omega, by go_num, fun j hj h => ?_⟩
            by_cases e : j = k
            · subst e; exact Hq.out
            · exact M.out j hj (by omega)
          case measure => simp [intOf]; omega
      | false =>
        have Hb := Lib.hid (HB.out.symm.trans (text_bad _ (all_bad okT s k hlt hq)))
        have hn : ¬ ((s[k].toNat : Int) = 10 ∨ 32 ≤ (s[k].toNat : Int) ∧ (s[k].toNat : Int) ≤ 126) := fun h => by rw [hok.2 h] at hq; cases hq
        have hcb : ((s[k].toNat : Int) != 10) = true := by rw [bne_iff_ne]; omega
        by_cases h32 : (s[k].toNat : Int) < 32
        · clear hok hn hq
          go_wp2
          go_ret
          exact ⟨ret_bool Hb.out.symm, Grew.refl w⟩
        · have h126 : (126 : Int) < (s[k].toNat : Int) := by omega
          clear hok hn hq
          go_wp2
          go_ret
          exact ⟨ret_bool Hb.out.symm, Grew.refl w⟩
    · have hz0 : 0 < s.size := by omega
      have hz1 : s.size - 1 < s.size := by omega
      have hall := all_take okT s (fun j hj => M.out j hj (by omega))
      have hh : s.data.toList.head? = some (s[0]'hz0) := by
        rw [List.head?_eq_getElem?, List.getElem?_eq_getElem (by rw [size_dataE]; exact hz0)]; rfl
      have hla : s.data.toList.getLast? = some (s[s.size - 1]'hz1) := by
        rw [List.getLast?_eq_getElem?, List.getElem?_eq_getElem (by rw [size_dataE]; exact hz1)]
        simp only [size_dataE]
        rfl
      have e := text_ref s.data.toList (by rw [size_dataE]; exact hs1) (by rw [size_dataE]; exact hs) _ _ hh hla hall
      rw [HB.out] at e
      have e32 : ∀ b : UInt8, (b == 32) = ((b.toNat : Int) == 32) := fun b => by
        rw [Bool.eq_iff_iff, beq_iff_eq, beq_iff_eq, ← UInt8.toNat_inj]
        have h2 : (32 : UInt8).toNat = 32 := rfl
        omega
      have e10 : ∀ b : UInt8, (b == 10) = ((b.toNat : Int) == 10) := fun b => by
        rw [Bool.eq_iff_iff, beq_iff_eq, beq_iff_eq, ← UInt8.toNat_inj]
        have h2 : (10 : UInt8).toNat = 10 := rfl
        omega
      rw [e32, e32, e10, e10] at e
      have He := Lib.hid e
      clear e e32 e10 hall hh hla
      have hi1 : (0 : Int) ≤ (s.size : Int) - 1 := by omega
      have hi2 : (s.size : Int) - 1 < (s.size : Int) := by omega
      go_wp2
      go_quiet (fail)
      go_wp2
      all_goals
        go_ret
        exact ⟨ret_bool (by rw [He.out]; first | (simp_all; done) | (simp_all [bne]; done)), (Grew.refl w).drewN _⟩
end Go.Proofs.YtjaknioojpgkiaaGreatDoor

/- slices.Collect over slices.Values: a slice of its own that holds what the slice holds. No condition but the sizes that a slice can have. -/
namespace Go.Proofs.YtjaknioojpgkiaaGreatDoor
open Go.RowKit Go.Shelf

attribute [local go_sem] Oper.semAt_some

theorem infoS : (Tryz.prog.info? 9).map (fun i => (i.zero, i.size, i.bytes)) = some (some (.string ⟨#[]⟩), 1, 16) := by kernel_rfl
set_option maxRecDepth 100000 in
set_option maxHeartbeats 2000000 in
theorem values1S_in (F : Fence) (n : Nat) (h7 : F.fn 266) (hro : F.round = none) (hn : 1 ≤ n) (l Bs n₀ b off cap : Nat) (zs : List ByteArray) (hreach : zs.length ≤ 9223372036854775807) (hb : b < n₀) (J Jx : List ByteArray → World → Prop)
    (hY : ∀ pre x W, J pre W → pre.length < zs.length → YieldAt F (n - 1) Tryz.prog l #[Value.string x] W fun e W' =>
      (e = .returned (.bool true) ∧ J (pre ++ [x]) W' ∧ Below n₀ W W') ∨ (e = .returned (.bool false) ∧ Jx (pre ++ [x]) W'))
    (W : World) (hBs : W.cell? ⟨Bs, 0, none⟩ = some (.slice (some ⟨b, off, none⟩) zs.length cap)) (hc : ∀ j (hj : j < zs.length), W.cell? ⟨b, off + j, none⟩ = some (Value.string zs[j])) (h0 : J [] W) :
    CallsIn F n Tryz.prog 266 #[.func (.yield l) #[] #[], .pointer (some ⟨Bs, 0, none⟩)] W fun e W' => (∃ v, e = .returned v) ∧
      ((∃ ys, ys = zs ∧ J ys W') ∨ (∃ pre, pre <+: zs ∧ Jx pre W')) := by
  refine callsIn_of_wp Tryz.func266 rfl h7 ?_ hro
  simp only [Tryz.ntmps266, List.size_toArray, List.length_cons, List.length_nil, Nat.reduceAdd, Nat.reduceSub, Array.replicate_succ, Array.replicate_zero, List.push_toArray, List.append_toArray, List.nil_append, List.cons_append]
  have HC := Lib.hid hc
  have HY := Lib.hid hY
  clear hc hY
  gi_wp2
  gi_loopw [7] (fun i wr => ∃ k : Nat, k ≤ zs.length ∧ i = .int .i64 k ∧ J (zs.take k) wr ∧ Below n₀ W wr)
    (fun i _ => zs.length - (intOf i).toNat)
  case atStart => exact ⟨0, Nat.zero_le _, rfl, h0, Below.refl _ _⟩
  case round =>
    obtain ⟨k, hk, rfl, hJs, hnx⟩ := hrel
    by_cases hlt : k < zs.length
    · have hcx' : wr.cell? ⟨b, off + k, none⟩ = some (Value.string zs[k]) := (hnx.cell (p := ⟨b, off + k, none⟩) hb).trans (HC.out k hlt)
      obtain ⟨fn, tmps, assign, body, hy, hR⟩ := HY.out _ zs[k] wr hJs (by rw [List.length_take]; omega)
      have HT := Lib.hid (List.take_succ_eq_append_getElem hlt)
      generalize zs[k] = y at hcx' hy hR HT
      gi_wp2
      refine hR.mono ?_
      rintro e W3 (⟨rfl, hJ3, hk3⟩ | ⟨rfl, hJx3⟩)
      · gi_wp2
        go_roundw
        case rel => exact ⟨k + 1, by omega, by simp, by rw [HT.out]; exact hJ3, hnx.trans hk3⟩
        case measure => simp [intOf]; omega
      · gi_wp2
        refine bodyPost_ret (results_none rfl _ _ _) rfl ?_
        exact ⟨⟨_, rfl⟩, .inr ⟨_, by rw [← HT.out]; exact List.take_prefix _ _, hJx3⟩⟩
    · have e : zs.take k = zs := List.take_of_length_le (by omega)
      rw [e] at hJs
      clear e
      gi_wp2
      go_end0
      exact ⟨⟨_, rfl⟩, .inl ⟨_, rfl, hJs⟩⟩

set_option maxRecDepth 100000 in
set_option maxHeartbeats 1000000 in
theorem values1S_nil_in (F : Fence) (n : Nat) (h7 : F.fn 266) (hro : F.round = none) (l Bs : Nat) (A : Option Addr) (cap : Nat) (J : List ByteArray → World → Prop) (W : World) (hBs : W.cell? ⟨Bs, 0, none⟩ = some (.slice A 0 cap)) (h0 : J [] W) :
    CallsIn F n Tryz.prog 266 #[.func (.yield l) #[] #[], .pointer (some ⟨Bs, 0, none⟩)] W fun e W' => (∃ v, e = .returned v) ∧ J [] W' := by
  refine callsIn_of_wp Tryz.func266 rfl h7 ?_ hro
  simp only [Tryz.ntmps266, List.size_toArray, List.length_cons, List.length_nil, Nat.reduceAdd, Nat.reduceSub, Array.replicate_succ, Array.replicate_zero, List.push_toArray, List.append_toArray, List.nil_append, List.cons_append]
  gi_wp2
  gi_loopw [7] (fun i wr => i = .int .i64 0 ∧ J [] wr) (fun _ _ => 0)
  case atStart => exact ⟨rfl, h0⟩
  case round =>
    obtain ⟨rfl, hJs⟩ := hrel
    gi_wp2
    go_end0
    exact ⟨⟨_, rfl⟩, hJs⟩

theorem valuesS_any (A : Option Addr) (n c : Nat) (w : World) : Calls Tryz.prog 238 #[.slice A n c] w fun e w' => e = .returned (.func (.func 266) #[] #[.pointer (some ⟨w.heap.size, 0, none⟩)]) ∧ w.alloc (.cells #[.slice A n c] 26) = w' := by
  go_enter Tryz.func238, Tryz.ntmps238
  go_wp2
  go_ret
  exact ⟨rfl, rfl⟩

theorem valuesS_stops (F : Fence) (n : Nat) (h7 : F.fn 266) (hro : F.round = none) (hn : 1 ≤ n) (Bs n₀ : Nat) (sv : Value) (zs : List ByteArray) (w w0 : World) (hBs : Bs < w.heap.size) (hn₀ : n₀ ≤ w.heap.size) (hw0 : w0.heap.size = n₀) (hg : Below n₀ w0 w)
    (hc : w.cell? ⟨Bs, 0, none⟩ = some sv) (hI : SlS w0 sv zs) :
    SeqStopsK F n Tryz.prog 266 #[.pointer (some ⟨Bs, 0, none⟩)] (fun x : ByteArray => #[Value.string x]) (Below n₀) (fun ys => ys = zs) (fun pre => pre <+: zs) zs.length w := fun l J Jx W hW _ _ hY h0 => by
  have hc' := (hW.cell (p := ⟨Bs, 0, none⟩) hBs).trans hc
  obtain ⟨A, c, rfl, hlc, hcm, hr⟩ := hI.open_
  rcases Nat.eq_zero_or_pos zs.length with hz | hz
  · obtain rfl : zs = [] := List.eq_nil_of_length_eq_zero hz
    exact (values1S_nil_in F n h7 hro l Bs A c J W hc' h0).mono fun e W' ⟨he, hj⟩ => ⟨he, .inl ⟨_, rfl, hj⟩⟩
  · obtain ⟨b, off, rfl, hb, hcell⟩ := hr hz
    have hgw : Grew w0 W := by
      have := hg.trans (hW.mono hn₀)
      unfold Grew
      rw [hw0]
      exact this
    exact values1S_in F n h7 hro hn l Bs n₀ b off c zs (by unfold maxLen at hcm; omega) (by omega) J Jx hY W hc' (fun j hj => hcell W hgw j hj) h0

set_option maxRecDepth 100000 in
set_option maxHeartbeats 4000000 in
/-- slices.AppendSeq, from nothing, over slices.Values. -/
theorem appendSeqS_in (F : Fence) (n : Nat) (h3 : F.fn 277) (h5 : F.fn 266) (hro : F.round = none) (hn : 3 ≤ n) (Bs n₀ : Nat) (sv : Value) (zs : List ByteArray) (hlen : zs.length ≤ maxLen) (hbytes : zs.length * 16 ≤ 140737488355328) (w w0 : World)
    (hBs : Bs < w.heap.size) (hn₀ : n₀ ≤ w.heap.size) (hw0 : w0.heap.size = n₀) (hg : Below n₀ w0 w) (hc : w.cell? ⟨Bs, 0, none⟩ = some sv) (hI : SlS w0 sv zs) :
    CallsIn F n Tryz.prog 277 #[.slice none 0 0, .func (.func 266) #[] #[.pointer (some ⟨Bs, 0, none⟩)]] w fun e W' => ∃ v, e = .returned v ∧ W'.ownsRow w.heap.size 9 1 v zs.length (zs.map (Value.string)) ∧ Below w.heap.size w W' := by
  have h1 : 1 ≤ n := by omega
  obtain ⟨i0, hi, hz0, hz1, hz2⟩ := info_parts infoS
  refine callsIn_of_wp_marks Tryz.func277 rfl h3 ?_ hro
  simp only [Tryz.ntmps277, List.size_toArray, List.length_cons, List.length_nil, Nat.reduceAdd, Nat.reduceSub, Array.replicate_succ, Array.replicate_zero, List.push_toArray, List.append_toArray, List.nil_append, List.cons_append]
  unfold maxLen at hlen
  gi_wp2
  have bO := Boxed.new w 26 (.slice none 0 0)
  have hB0 : Below w.heap.size w (w.alloc (.cells #[.slice none 0 0] 26)) := (Below.refl _ w).alloc (Nat.le_refl _) _
  refine wpIn_rangeFunc_ownG hro h1 (gf := 266) (lb := #[.pointer (some ⟨Bs, 0, none⟩)]) rfl h5 (enters_of Tryz.func266 (by kernel_rfl) rfl)
    (valuesS_stops F (n - 1) h5 hro (by omega) Bs n₀ sv zs _ w0 (by simp; omega) (by simp; omega) hw0 (hg.trans (hB0.mono hn₀)) ((World.cell?_alloc_lt _ _ _ hBs).trans hc) hI) belowK_t (belowK_b (by simp; omega)) (Below.refl _ _) (fun _ => rfl)
    (fun pre W => (∃ v, Boxed W w.heap.size 26 v ∧ W.ownsRow w.heap.size 9 1 v pre.length (pre.map (Value.string)) ∧ (v = .slice none 0 0 ↔ pre = [])) ∧ Below w.heap.size w W)
    (fun _ _ _ => False)
    (OwnFrom.and (Own.from (holdsRow_own w.heap.size w.heap.size 26 9 1 (fun pre => pre.length) (fun pre => pre.map (Value.string)) (fun pre v => v = .slice none 0 0 ↔ pre = [])) _) (ownFrom_below (Nat.le_refl _) (by simp)))
    (fun _ _ _ _ _ hs _ _ => hs)
    ⟨⟨_, bO, World.ownsRow_nil _ _ _ _, by simp⟩, hB0⟩
    (fun x => { tmps := #[.slice none 0 0, .func (.func 266) #[] #[.pointer (some ⟨Bs, 0, none⟩)], .pointer (some ⟨w.heap.size, 0, none⟩), undef, .slice none 0 0, Value.string x, .func (.func 266) #[] #[.pointer (some ⟨Bs, 0, none⟩)], Value.string x, undef, undef, undef, undef, undef], defers := [] }) ?assign ?body ?done ?stop
  case assign =>
    intro l x W K hK
    gi_wp2
    exact hK
  case body =>
    rintro l pre x W ⟨⟨v, hv, hrow, hnil⟩, hB⟩ hlt
    have hc := hv.cell
    gi_wp2_with (gi_at_builtin; refine wpListIn_append_own _ rfl _ _ 26 rfl w.heap.size 9 i0 (.string ⟨#[]⟩) 1 16 Tryz.underlying26 hi hz0 hz1 hz2 rfl (by decide) _ _ _ rfl (hrow.alloc _) ⟨W.heap.size, 0, none⟩ 1 1 [Value.string x] rfl rfl (cell_one_new _ _ _) (by simp [Value.oneCell']) (by unfold maxLen; omega) (by omega) (by have := hB.size; simp; omega) ?_; intro v' w1 hown' hgrow _; obtain ⟨g', cap', rfl⟩ := ownsRow_succ hown'; obtain ⟨hv1, hv2, hr2, hk2, hb2⟩ := hv.appended (by decide) hrow hB.size (Nat.le_refl _) hown' hgrow; have hc1 := hv1.cell; have hf1 := hv1.frozen)
    exact ⟨hk2.from _, hb2.mono hn₀, ⟨_, hv2, by simpa using hr2, by simp⟩, hB.trans hb2⟩
  case done =>
    rintro D ys W hD rfl ⟨⟨v, hv, hrow, hnil⟩, hB⟩ hK
    have hc := hv.cell
    gi_wp2
    refine ⟨by simp, .inl ⟨_, _, rfl, run_takeDeferred hK, ?_⟩⟩
    exact ⟨_, results_tmp rfl _ _ _, v, rfl, ownsRow_putObj hrow _ hK rfl, hB.trans (belowK_b (w := w) (Nat.le_refl _) W D _ _ (by simp at hD; omega) hK rfl rfl)⟩
  case stop =>
    rintro D c pre W _ _ h _
    exact h.elim

/-- slices.Collect over slices.Values: a slice of its own that holds the same. -/
theorem collectS_any (sv : Value) (zs : List ByteArray) (hbytes : zs.length * 16 ≤ 140737488355328) (Bs : Nat) (w w0 : World) (hBs : Bs < w.heap.size) (hg : Grew w0 w) (hc : w.cell? ⟨Bs, 0, none⟩ = some sv) (hI : SlS w0 sv zs) :
    Calls Tryz.prog 264 #[.func (.func 266) #[] #[.pointer (some ⟨Bs, 0, none⟩)]] w fun e w' => ∃ v, e = .returned v ∧ w'.ownsRow w.heap.size 9 1 v zs.length (zs.map (Value.string)) ∧ Grew w w' := by
  have hl : zs.length ≤ maxLen := by unfold maxLen; omega
  have ha := callsIn_wide.1 (appendSeqS_in Fence.wide 3 trivial trivial rfl (by omega) Bs w0.heap.size sv zs hl hbytes w w0 hBs hg.size rfl hg hc hI)
  have HA := Lib.hid ha
  clear ha
  go_enter Tryz.func264, Tryz.ntmps264
  go_wp2_with (first | (go_at_call 277; refine HA.out.mono ?_; rintro e w1 ⟨v, rfl, ho, hb⟩))
  go_ret
  exact ⟨v, rfl, ho, hb⟩

end Go.Proofs.YtjaknioojpgkiaaGreatDoor
