/- Lemmas on what the functions of the program and of the library compute: RSa, PlainBd, FrameR, OpenR, OpenO. The conditions stand at each. -/
import Derived.Test.YtafncfomiolmgaaGreatDoorQ17
import Derived.Test.YtafncfomiolmgaaGreatDoorQ4
import Derived.BigQuiet
import Derived.Test.YtafncfomiolmgaaGreatDoorQ3
import Derived.Test.YtafncfomiolmgaaGreatDoorQ5
import Derived.Test.YtafncfomiolmgaaGreatDoorQ12
import Derived.Test.YtafncfomiolmgaaGreatDoorQ11
import Derived.Test.YtafncfomiolmgaaGreatDoorCards
import Derived.Test.YtafncfomiolmgaaGreatDoorTie
import Derived.Test.YtafncfomiolmgaaGreatDoorQ1
import Derived.WalkKit
import Derived.ProofKit
import Derived.OpenShut
import Derived.Carry
import Derived.ChangeMaps5
import Derived.SliceStrings
import Derived.Deep.Slices
import Derived.Deep.DeepHandedRow
import Derived.Lib.LaidTab
import Derived.LaidSub
import Derived.Shelf.Vars
import Derived.Test.YtafncfomiolmgaaGreatDoorQ2
import Derived.Test.YtafncfomiolmgaaGreatDoorQ10
/- The reference's comparison of trees, walked at two trees that read alike. The condition: the lists are short. -/
namespace Go.Proofs.YtafncfomiolmgaaGreatDoor
open Go.RowKit

theorem neqUself (w : World) (x0 x1 x2 : Int) (x3 x4 : ByteArray) : (binOp .neq 51 (.agg #[.int .i64 x0, .int .i64 x1, .int .i64 x2, .string x3, .string x4]) (.agg #[.int .i64 x0, .int .i64 x1, .int .i64 x2, .string x3, .string x4])).run Tryz.prog w = .ok (.bool false) w := by
  have hS : Tryz.prog.underlying 51 = some (.struct (Tryz.prog.fieldsOf 51)) := by kernel_rfl
  have hp : Tryz.prog.stoodInHeld 51 = false := by kernel_rfl
  rw [run_neq_struct, show (10000 : Nat) = 9999 + 1 from rfl, run_equalIn_agg w 9999 51 _ _ hS hp]
  simp only [Program.fieldsOf, Tryz.underlying51]
  go_simp
set_option maxHeartbeats 4000000 in
theorem sameI19 (l : List Int) (v u : Value) (w : World) (hv : SlI w v l) (hu : SlI w u l) : Calls Tryz.prog 60 #[v, u] w fun e w' => e = .returned (.bool true) ∧ Grew w w' := by
  obtain ⟨A, c, rfl, hlc, hc, hr⟩ := hv.open_
  obtain ⟨A', c', rfl, hlc', hc', hr'⟩ := hu.open_
  unfold maxLen at hc hc'
  have HR := Lib.hid hr
  have HR' := Lib.hid hr'
  have hne : ((l.length : Int) != (l.length : Int)) = false := by simp
  clear hr hr' hv hu
  go_enter Tryz.func60, Tryz.ntmps60
  go_wp2
  go_loopg [5] l.length (fun gg s5 wr => ∃ k : Nat, k ≤ l.length ∧ l.length - k ≤ gg ∧ s5 = .int .i64 k ∧ Aside (Grew w wr))
  case atStart => exact ⟨0, by omega, by omega, rfl, (show Aside _ from Grew.refl _)⟩
  case round =>
    obtain ⟨k, hk, hgk, rfl, BW⟩ := hrel
    by_cases hlt : k < l.length
    · have hltz : (k : Int) < (l.length : Int) := by omega
      have h0z : (0 : Int) ≤ (k : Int) := by omega
      obtain ⟨b, off, rfl, hb, hcell⟩ := HR.out (by omega)
      obtain ⟨b', off', rfl, hb', hcell'⟩ := HR'.out (by omega)
      have c0 := hcell wr BW.out k hlt
      have d0 := hcell' wr BW.out k hlt
      generalize l[k] = y at c0 d0
      clear hcell hcell'
      go_wp2
      go_quiet (fail)
      clear c0 d0
      go_wp2
      go_roundg (l.length - (k + 1))
      case measure => omega
      case rel => exact ⟨k + 1, by omega, by omega, by go_num, (show Aside _ from BW.out.drewN _)⟩
    · have hltz : ¬ (k : Int) < (l.length : Int) := by omega
      go_wp2
      go_ret
      exact ⟨rfl, BW.out⟩
theorem same_size (w : World) (o : Obj) : (w.alloc o).heap.size = w.heap.size + 1 := by simp
set_option maxHeartbeats 8000000 in
set_option maxRecDepth 100000 in
theorem same19 (t : Tr) (ra ba rb bb : Value) (w : World) (ha : TrOk w ra ba t) (hb : TrOk w rb bb t) : Calls Tryz.prog 21 #[.agg #[ra, ba], .agg #[rb, bb]] w fun e w' => e = .returned (.bool true) ∧ Grew w w' := by
  have kS := fun W (hW : Grew w W) => sameI19 t.roots ra rb W (ha.1.mono hW) (hb.1.mono hW)
  obtain ⟨Aa, ca, rfl, hal, hac, har⟩ := ha.2.open_
  obtain ⟨Ab, cb, rfl, hbl, hbc, hbr⟩ := hb.2.open_
  unfold maxLen at hac hbc
  have HA := Lib.hid har
  have HB := Lib.hid hbr
  have KS := Lib.hid kS
  have hne : ((t.brs.length : Int) != (t.brs.length : Int)) = false := by simp
  have HX := Lib.hid (fun W (g : Grew ((w.alloc (.cells [ra, .slice Aa t.brs.length ca].toArray 35)).alloc (.cells [rb, .slice Ab t.brs.length cb].toArray 35)) W) => (show W.cell? ⟨w.heap.size, 1, none⟩ = some (.slice Aa t.brs.length ca) ∧ W.cell? ⟨w.heap.size + 1, 1, none⟩ = some (.slice Ab t.brs.length cb) from ⟨new_cell (w := w) (((Grew.refl _).alloc _).trans g) 1 _ rfl, by
    have := new_cell g 1 _ rfl
    rw [same_size] at this
    exact this⟩))
  clear har hbr kS ha hb
  go_enter Tryz.func21, Tryz.ntmps21
  go_wp2_with fail
  refine (KS.out _ (((Grew.refl w).alloc _).alloc _)).mono ?_
  rintro e w1 ⟨rfl, g1⟩
  obtain ⟨x1, y1⟩ := HX.out w1 g1
  have HG1 := Lib.hid ((((Grew.refl w).alloc _).alloc _).trans g1)
  have HXG := Lib.hid (fun W (g : Grew w1 W) => HX.out W (g1.trans g))
  clear g1 HX
  dsimp only
  go_wp2
  clear x1 y1
  go_loopg [5] t.brs.length (fun gg s5 wr => ∃ k : Nat, k ≤ t.brs.length ∧ t.brs.length - k ≤ gg ∧ s5 = .int .i64 k ∧ Aside (Grew w1 wr))
  case atStart => exact ⟨0, by omega, by omega, rfl, (show Aside _ from Grew.refl _)⟩
  case round =>
    obtain ⟨k, hk, hgk, rfl, BW⟩ := hrel
    obtain ⟨x1, y1⟩ := HXG.out wr BW.out
    by_cases hlt : k < t.brs.length
    · have hltz : (k : Int) < (t.brs.length : Int) := by omega
      have h0z : (0 : Int) ≤ (k : Int) := by omega
      obtain ⟨b, off, rfl, hb, hcell⟩ := HA.out (by omega)
      obtain ⟨b', off', rfl, hb', hcell'⟩ := HB.out (by omega)
      obtain ⟨ka, hka, hca⟩ := hcell k hlt
      obtain ⟨kb, hkb, hcb⟩ := hcell' k hlt
      have KK := Lib.hid (fun W (hW : Grew w W) => sameI19 t.brs[k].kids ka kb W (hka.mono hW) (hkb.mono hW))
      obtain ⟨c0, c1, c2, c3, c4, c5⟩ := hca wr (HG1.out.trans BW.out)
      obtain ⟨d0, d1, d2, d3, d4, d5⟩ := hcb wr (HG1.out.trans BW.out)
      generalize t.brs[k] = y at c0 c1 c2 c3 c4 c5 d0 d1 d2 d3 d4 d5 KK
      obtain ⟨yi, yp, yl, yt, ym, yk⟩ := y
      dsimp only at c0 c1 c2 c3 c4 c5 d0 d1 d2 d3 d4 d5 KK
      have kN := fun w => neqUself w yi yp yl yt ym
      have GW := Lib.hid (HG1.out.trans BW.out)
      clear hcell hcell' hka hkb hca hcb
      go_wp2
      have f1 := Gr.cell x1
      have g1 := Gr.cell y1
      have fc0 := Gr.cell c0
      have fc1 := Gr.cell c1
      have fc2 := Gr.cell c2
      have fc3 := Gr.cell c3
      have fc4 := Gr.cell c4
      have fc5 := Gr.cell c5
      have fd0 := Gr.cell d0
      have fd1 := Gr.cell d1
      have fd2 := Gr.cell d2
      have fd3 := Gr.cell d3
      have fd4 := Gr.cell d4
      have fd5 := Gr.cell d5
      clear x1 y1 c0 c1 c2 c3 c4 c5 d0 d1 d2 d3 d4 d5
      refine region_gr wr (by kernel_rfl) (by kernel_rfl) (Grew.refl _) ?_
      repeat (first | go_big_quiet_step ((exact Gr.calls _ (KK.out _ (GW.out.trans (Gr.g _))))) | quiet_step ((exact Gr.calls _ (KK.out _ (GW.out.trans (Gr.g _))))))
      refine wpQuiet_nil ?_
      intro _ hw'
      obtain ⟨wi, rfl⟩ := hw'
      have HWI := Lib.hid (BW.out.trans wi.g)
      clear f1 g1 fc0 fc1 fc2 fc3 fc4 fc5 fd0 fd1 fd2 fd3 fd4 fd5
      go_wp2
      go_roundg (t.brs.length - (k + 1))
      case measure => omega
      case rel => exact ⟨k + 1, by omega, by omega, by go_num, (show Aside _ from HWI.out)⟩
    · have hltz : ¬ (k : Int) < (t.brs.length : Int) := by omega
      go_wp2
      go_ret
      exact ⟨rfl, HG1.out.trans BW.out⟩
end Go.Proofs.YtafncfomiolmgaaGreatDoor

/- A right tree is built from nothing by creating its units, parents first, plainly: the tree of the first units, and one step. No condition. -/
namespace Go.Proofs.YtafncfomiolmgaaGreatDoor
open Go.RowKit

def kidsIn (t : Tr) (S : List Int) (b : Br) : Br := { b with kids := filt t S b.id }
def brsIn (t : Tr) (S : List Int) : List Br := t.brs.filter fun b => decide (b.id ∈ S)
/-- The tree of the units of a list. -/
def partT (t : Tr) (S : List Int) : Tr := ⟨filt t S 0, (brsIn t S).map (kidsIn t S)⟩
structure Closed (t : Tr) (S : List Int) : Prop where
  there : ∀ y ∈ S, ∃ b ∈ t.brs, b.id = y
  up : ∀ y ∈ S, parOf t y = 0 ∨ parOf t y ∈ S
section
variable {t : Tr} {S : List Int}
theorem mem_part {x : Br} : x ∈ (partT t S).brs ↔ ∃ c ∈ t.brs, c.id ∈ S ∧ kidsIn t S c = x := by
  show x ∈ (brsIn t S).map (kidsIn t S) ↔ _
  rw [List.mem_map]
  constructor
  · rintro ⟨c, hc, e⟩
    have := List.mem_filter.1 hc
    exact ⟨c, this.1, by simpa using this.2, e⟩
  · rintro ⟨c, hc, hm, e⟩
    exact ⟨c, List.mem_filter.2 ⟨hc, by simpa using hm⟩, e⟩
theorem in_asc (h : idsAsc t.brs) : idsAsc (brsIn t S) := List.Pairwise.filter _ h
theorem part_asc (h : idsAsc t.brs) : idsAsc (partT t S).brs := List.pairwise_map.2 (in_asc h)
theorem part_find (h : idsAsc t.brs) {q : Int} (hq : q ∈ S) : brFind (partT t S).brs q = (brFind t.brs q).map (kidsIn t S) := by
  show brFind ((brsIn t S).map (kidsIn t S)) q = _
  rw [find_map (kidsIn t S) (fun _ => rfl)]
  congr 1
  cases hb : brFind t.brs q with
  | none =>
    rw [find_none] at hb ⊢
    exact fun b hbm => hb b (List.mem_filter.1 hbm).1
  | some b =>
    rw [find_iff h] at hb
    rw [find_iff (in_asc h)]
    exact ⟨List.mem_filter.2 ⟨hb.1, by simpa [hb.2] using hq⟩, hb.2⟩
theorem part_childs (h : idsAsc t.brs) (hS : Closed t S) {q : Int} (hq : q = 0 ∨ q ∈ S) : childs (partT t S) q = filt t S q := by
  unfold childs
  by_cases e : q = 0
  · rw [if_pos e, e]
    rfl
  · rw [if_neg e]
    have hm := hq.resolve_left e
    rw [part_find h hm]
    obtain ⟨b, hb, rfl⟩ := hS.there q hm
    rw [find_byid h hb]
    rfl
theorem part_deep (h : SoundM t) (hS : Closed t S) : ∀ (n : Nat) (b : Br), b ∈ t.brs → b.id ∈ S → deep (partT t S).brs n (kidsIn t S b) = deep t.brs n b
  | 0, b, _, _ => rfl
  | n + 1, b, hb, hm => by
    have hu := hS.up b.id hm
    rw [parOf_in h.asc hb] at hu
    by_cases e : b.parent = 0
    · rw [deep_zero _ _ _ e, deep_zero _ _ (kidsIn t S b) e]
    · have hp := hu.resolve_left e
      obtain ⟨p, hpm, e2⟩ := hS.there _ hp
      have h1 : brFind t.brs b.parent = some p := by
        rw [← e2]
        exact find_byid h.asc hpm
      have h2 : brFind (partT t S).brs (kidsIn t S b).parent = some (kidsIn t S p) := by
        show brFind _ b.parent = _
        rw [part_find h.asc hp, h1]
        rfl
      rw [deep_up _ _ _ _ e h1, deep_up _ n (kidsIn t S b) (kidsIn t S p) e h2, part_deep h hS n p hpm (by rw [e2]; exact hp)]
theorem part_right (h : RightT t) (hS : Closed t S) (hs : SoundM (partT t S)) : RightT (partT t S) := by
  obtain ⟨hM, hD⟩ := (right_iff t).1 h
  refine (right_iff _).2 ⟨hs, fun b hb => ?_⟩
  obtain ⟨c, hc, hcm, rfl⟩ := mem_part.1 hb
  obtain ⟨d, h1, h2⟩ := hD c hc
  have h3 : deep (partT t S).brs t.brs.length (kidsIn t S c) = some d := by
    rw [part_deep hM hS _ c hc hcm]
    exact h1
  have h4 := deep_le hs.asc hb h3
  exact ⟨d, (deep_mono _ _ _ h3).2 _ (by omega), h2⟩
def opOf (i : Int) (b : Br) : Opn := ⟨i, 0, 1, b.id, b.parent, 0, b.level, b.title, b.mark, 0, 0, 0⟩
theorem part_can (h : SoundM t) {b : Br} (hb : b ∈ t.brs) (hn : b.id ∉ S) (hp : b.parent = 0 ∨ b.parent ∈ S) (i : Int) : CanCreate (partT t S) (opOf i b) where
  new := fun c hc e => by
    obtain ⟨d, hd, hm, rfl⟩ := mem_part.1 hc
    exact hn (by rw [← (show d.id = b.id from e)]; exact hm)
  unit := h.units b hb
  stands := by
    rcases (placed_mem h.asc b).1 (h.placed b hb) with ⟨h1, h2⟩ | ⟨h1, p, hpm, h2, h3⟩
    · exact .inl ⟨h1, h2⟩
    · exact .inr ⟨h1, kidsIn t S p, mem_part.2 ⟨p, hpm, by rw [h2]; exact hp.resolve_left h1, rfl⟩, h2, h3⟩
  before := fun h => absurd rfl h
  mark := fun c hc hne e => by
    obtain ⟨d, hd, hm, rfl⟩ := mem_part.1 hc
    have := h.marks b hb d hd hne (Eq.symm e)
    exact hn (by rw [this]; exact hm)
  room := by
    have := h.len
    have h1 : (brsIn t S).length < t.brs.length := List.length_filter_lt_length_iff_exists.2 ⟨b, hb, by simpa using hn⟩
    show ((brsIn t S).map _).length < 256
    rw [List.length_map]
    omega
theorem putF_end (n : Int) : ∀ {ks : List Int}, (0 : Int) ∉ ks → putF n 0 ks = ks ++ [n]
  | [], _ => by simp [putF]
  | x :: r, h => by
    have hx : x ≠ 0 := fun e => h (by rw [e]; exact List.mem_cons_self ..)
    have ih := putF_end n (ks := r) fun hm => h (List.mem_cons_of_mem _ hm)
    show (if x = 0 then n :: x :: r else x :: putF n 0 r) = _
    rw [if_neg hx, ih]
    rfl
theorem brs_next (h : idsAsc t.brs) {b : Br} (hb : b ∈ t.brs) (hn : b.id ∉ S) : brsIn t (S ++ [b.id]) = insB b (brsIn t S) := by
  have h1 := insB_filter (u := b) (in_asc (S := S ++ [b.id]) h) (List.mem_filter.2 ⟨hb, by simp⟩)
  rw [← h1]
  congr 1
  unfold brsIn
  rw [List.filter_filter]
  refine List.filter_congr fun c _ => ?_
  by_cases e : c.id = b.id
  · simp [e, hn]
  · simp [e]
theorem core_kidsIn : (partT t S).brs.map core = (brsIn t S).map core := by
  show ((brsIn t S).map (kidsIn t S)).map core = _
  rw [List.map_map]
  rfl
theorem closed_next (h : SoundM t) (hS : Closed t S) {b : Br} (hb : b ∈ t.brs) (hp : b.parent = 0 ∨ b.parent ∈ S) : Closed t (S ++ [b.id]) where
  there := fun y hy => by
    rcases List.mem_append.1 hy with h1 | h1
    · exact hS.there y h1
    · rw [List.mem_singleton] at h1
      exact ⟨b, hb, h1.symm⟩
  up := fun y hy => by
    rcases List.mem_append.1 hy with h1 | h1
    · exact (hS.up y h1).imp_right fun h => List.mem_append_left _ h
    · rw [List.mem_singleton] at h1
      rw [h1, parOf_in h.asc hb]
      exact hp.imp_right fun h => List.mem_append_left _ h
/-- One more unit. -/
theorem part_create (h : SoundM t) (hs : SoundM (partT t S)) (hS : Closed t S) {b : Br} (hb : b ∈ t.brs) (hn : b.id ∉ S) (hp : b.parent = 0 ∨ b.parent ∈ S) (i : Int) : createT (partT t S) (opOf i b) = partT t (S ++ [b.id]) := by
  have hc := part_can h hb hn hp i
  have hS2 := closed_next h hS hb hp
  have hb0 : b.id ≠ 0 := unit_pos (h.units b hb)
  have hS0 : (0 : Int) ∉ S := fun hm => by
    obtain ⟨c, hcm, e⟩ := hS.there 0 hm
    exact unit_pos (h.units c hcm) e
  symm
  refine tree_ext (part_asc h.asc) (fun c hcm => ?_) ?_ (fun q hq => ?_)
  · obtain ⟨d, hd, _, rfl⟩ := mem_part.1 hcm
    exact unit_pos (h.units d hd)
  · rw [core_kidsIn, brs_next h.asc hb hn]
    show _ = (insB (newBr (opOf i b)) (setK (partT t S) (opOf i b).parent _).brs).map core
    rw [map_insB core (fun _ => rfl), map_insB core (fun _ => rfl), core_setK, core_kidsIn]
    rfl
  · have hq2 : q = 0 ∨ q ∈ S ++ [b.id] := by
      refine hq.imp_right ?_
      rintro ⟨c, hcm, rfl⟩
      obtain ⟨d, _, hm, rfl⟩ := mem_part.1 hcm
      exact hm
    rw [part_childs h.asc hS2 hq2, filt_app]
    obtain ⟨e1, e2, e3⟩ := create_childs hs hc
    rw [← create_eq hs hc, e1, setK_childs _ _ _ e2, childs_insB hs.asc (newBr (opOf i b)) hc.new hb0]
    have hone : filt t [b.id] q = if b.parent = q then [b.id] else [] := by
      unfold filt
      rw [List.filter_cons, parOf_in h.asc hb]
      by_cases e : b.parent = q <;> simp [e]
    rw [hone]
    show _ = if q = b.parent then putF b.id 0 (childs (partT t S) b.parent) else if q = b.id then [] else childs (partT t S) q
    by_cases e : q = b.parent
    · rw [if_pos e, if_pos e.symm, part_childs h.asc hS hp, e]
      exact (putF_end b.id fun hm => hS0 (List.mem_filter.1 hm).1).symm
    · rw [if_neg e, if_neg (fun h => e h.symm), List.append_nil]
      by_cases e4 : q = b.id
      · rw [if_pos e4]
        unfold filt
        rw [List.filter_eq_nil_iff]
        intro y hy hyq
        have h5 : parOf t y = b.id := by rw [← e4]; simpa using hyq
        rcases hS.up y hy with h6 | h6
        · exact hb0 (by rw [← h5]; exact h6)
        · exact hn (by rw [← h5]; exact h6)
      · rw [if_neg e4]
        refine (part_childs h.asc hS (hq2.imp_right fun hm => ?_)).symm
        rcases List.mem_append.1 hm with h1 | h1
        · exact h1
        · exact absurd (List.mem_singleton.1 h1) e4
theorem part_all (h : SoundM t) : partT t (belowT t 0) = t := by
  have hin : brsIn t (belowT t 0) = t.brs := List.filter_eq_self.2 fun b hb => by
    have := (all_mem_iff h b.id).2 ⟨b, hb, rfl⟩
    simpa using this
  have hS : Closed t (belowT t 0) := ⟨fun y hy => (all_mem_iff h y).1 hy, fun y hy => by
    obtain ⟨b, hb, rfl⟩ := (all_mem_iff h y).1 hy
    rw [parOf_in h.asc hb]
    exact (parent_there h hb).imp_right fun hx => (all_mem_iff h _).2 hx⟩
  refine tree_ext (part_asc h.asc) (fun c hcm => ?_) ?_ (fun q hq => ?_)
  · obtain ⟨d, hd, _, rfl⟩ := mem_part.1 hcm
    exact unit_pos (h.units d hd)
  · rw [core_kidsIn, hin]
  · have hq2 : q = 0 ∨ q ∈ belowT t 0 := by
      refine hq.imp_right ?_
      rintro ⟨c, hcm, rfl⟩
      obtain ⟨d, _, hm, rfl⟩ := mem_part.1 hcm
      exact hm
    rw [part_childs h.asc hS hq2]
    exact filt_all h q (hq2.imp_right fun hx => (all_mem_iff h q).1 hx)
theorem part_nil : partT t [] = ⟨[], []⟩ := by
  unfold partT brsIn filt
  simp
theorem sound_nil : SoundM ⟨[], []⟩ where
  len := by simp
  asc := List.Pairwise.nil
  units := fun b hb => absurd hb List.not_mem_nil
  marks := fun b hb => absurd hb List.not_mem_nil
  placed := fun b hb => absurd hb List.not_mem_nil
  kids := fun b hb => absurd hb List.not_mem_nil
  roots := ⟨List.nodup_nil, fun x => ⟨fun h => absurd h List.not_mem_nil, fun h => by
    obtain ⟨b, hb, _⟩ := h
    exact absurd hb List.not_mem_nil⟩⟩
  rank := ⟨fun _ => 0, fun b hb => absurd hb List.not_mem_nil⟩
/-- The beginnings of the list of all units. -/
theorem part_good (h : SoundM t) : ∀ (n : Nat) (S post : List Int), S.length = n → belowT t 0 = S ++ post → Closed t S ∧ SoundM (partT t S)
  | 0, S, post, hn, _ => by
    have := List.eq_nil_of_length_eq_zero hn
    subst this
    exact ⟨⟨fun y hy => absurd hy List.not_mem_nil, fun y hy => absurd hy List.not_mem_nil⟩, by rw [part_nil]; exact sound_nil⟩
  | n + 1, S, post, hn, he => by
    rcases List.eq_nil_or_concat S with e | ⟨L, x, e⟩
    · rw [e] at hn
      cases hn
    · rw [List.concat_eq_append] at e
      subst e
      have he2 : belowT t 0 = L ++ x :: post := by rw [he]; simp
      obtain ⟨h1, h2⟩ := part_good h n L (x :: post) (by simpa using hn) he2
      obtain ⟨b, hb, rfl⟩ := (all_mem_iff h x).1 (by rw [he2]; simp)
      have h3 := parFirst_all h L b.id post he2
      rw [parOf_in h.asc hb] at h3
      have h4 : b.id ∉ L := fun hm => by
        have := all_nodup h
        rw [he2] at this
        exact (List.nodup_append.1 this).2.2 _ hm _ (List.mem_cons_self ..) rfl
      refine ⟨closed_next h h1 hb h3, ?_⟩
      rw [← part_create h h2 h1 hb h4 h3 1]
      exact create_sound h2 (part_can h hb h4 h3 1)
theorem opOf_formed (h : SoundM t) {b : Br} (hb : b ∈ t.brs) {i : Int} (h1 : 1 ≤ i) (h2 : i ≤ 1073741824) : formedO (opOf i b) = true := by
  obtain ⟨u1, u2, u3, u4⟩ := h.units b hb
  unfold formedO kindF placeF opOf
  dsimp only
  rw [if_pos rfl, u1, u2, u3, mark_back u4, parent_range h hb, (within_iff i 1 1073741824).2 ⟨h1, h2⟩]
  decide
/-- One step of the building. -/
theorem build_step (h : RightT t) {x : Int} {post : List Int} (he : belowT t 0 = S ++ x :: post) : ∃ b, brFind t.brs x = some b ∧ b.id = x ∧ ∀ i, 1 ≤ i → i ≤ 1073741824 → applyR (partT t S) (opOf i b) = (partT t (S ++ [x]), 0) := by
  have hM := right_sound h
  obtain ⟨hS, hs⟩ := part_good hM _ S (x :: post) rfl he
  obtain ⟨hS2, hs2⟩ := part_good hM _ (S ++ [x]) post rfl (by rw [he]; simp)
  obtain ⟨b, hb, rfl⟩ := (all_mem_iff hM x).1 (by rw [he]; simp)
  have h3 := parFirst_all hM S b.id post he
  rw [parOf_in hM.asc hb] at h3
  have h4 : b.id ∉ S := fun hm => by
    have := all_nodup hM
    rw [he] at this
    exact (List.nodup_append.1 this).2.2 _ hm _ (List.mem_cons_self ..) rfl
  refine ⟨b, find_byid hM.asc hb, rfl, fun i h1 h2 => ?_⟩
  have hR := part_right h hS hs
  have hR2 := part_right h hS2 hs2
  have hf := opOf_formed hM hb h1 h2
  have h0 : faultO (partT t S) (opOf i b) = 0 := by
    rw [faultO_1 rfl]
    exact fault_create hs (part_can hM hb h4 h3 i)
  have hnew : newT (partT t S) (opOf i b) = partT t (S ++ [b.id]) := by
    rw [newT_1 rfl]
    exact part_create hM hs hS hb h4 h3 i
  unfold applyR
  rw [if_neg, if_neg, hnew, if_pos hR2]
  · exact fun hx => hx h0
  · rintro (hx | hx | hx)
    · exact hx hR
    · rw [hf] at hx
      cases hx
    · exact absurd hx (by show (1 : Int) ≠ 6; decide)
end
end Go.Proofs.YtafncfomiolmgaaGreatDoor

/- The frame that every statement of this seat needs: what a call that returns true and leaves all older blocks alone gives for the row; the witness's world, in which the listed tables lie; what the library's own variables hold. No condition. -/
namespace Go.Proofs.YtafncfomiolmgaaGreatDoor
open Go.ChangeShapes Go.WideShapes Go.ChangeAt Go.RowKit

theorem own : ownKnob Tryz.prog.godebug = none := by kernel_rfl
theorem laidOut : laidOutB Tryz.prog = true := by kernel_rfl

/-- Arguments read as before where nothing older has turned. -/
theorem trodAll_stays {H : Type} {enc : TypeId × Value → H} {P : Program} (hl : laidOutB P = true) {W W' : World} (hb : Below W.heap.size W W') : ∀ {ts : List TypeId} {vs : List Value} {ds : List (DataW H)} {ps : List MemPlace},
    (ts.all fun t => P.readableRec t && decide (t < P.types.size)) = true → DataW.TrodAll enc P W 0 (fun _ => true) true ts vs ds ps → (∀ x ∈ ps, x.block < W.heap.size) → DataW.TrodAll enc P W' 0 (fun b => decide (b < W.heap.size)) true ts vs ds ps
  | [], _, _, _, _, h, _ => by
    obtain ⟨rfl, rfl, rfl⟩ := trodAll_nil h
    exact trodAll_mk0
  | t :: ts, _, _, _, hr, h, hlt => by
    obtain ⟨v, vs, d, ds, p, q, rfl, rfl, rfl, h1, h2⟩ := trodAll_cons h
    simp only [List.all_cons, Bool.and_eq_true, decide_eq_true_eq] at hr
    exact trodAll_cons_mk (Below.trod hl hr.1.1 hr.1.2 h1 hb fun x hx => hlt x (List.mem_append_left _ hx)) (trodAll_stays hl hb (by simpa using hr.2) h2 fun x hx => hlt x (List.mem_append_right _ hx))

/-- What the row asks of a call that returned true and left everything older as it lay. -/
theorem post_true {H : Type} {enc : TypeId × Value → H} {P : Program} (hl : laidOutB P = true) {f : Func} {s : ChangeSpec} {W W' : World} {args : Array Value} {ds gs : List (DataW H)} {before : List MemPlace} {tb : TypeId}
    (hv : s.vars = []) (hr : f.resultTypes = #[tb]) (hb : P.underlying tb = some .bool) (hp : (f.params.toList.all fun t => P.readableRec t && decide (t < P.types.size)) = true)
    (hW : DataW.Whole enc P f.params.toList s.vars false W args.toList ds gs before) (hfn : s.fn H ds = { results := [.lit (.bool true)], args := ds }) (hg : Below W.heap.size W W') :
    s.post enc P f false true false false W args (.bool true) W' := by
  have hlt := hW.lt
  have hW' := hW
  obtain ⟨p, q, hA, hV, rfl, _, _⟩ := hW
  have hV' := hV
  rw [hv] at hV'
  obtain ⟨rfl, rfl⟩ := trodVars_none hV'
  simp only [List.append_nil] at hlt hW'
  refine ⟨ds, [], p, [], p, [], hW', ?_, ?_, ?_, hg.frame _, fun h => by cases h⟩
  · rw [hr, List.append_nil, hfn]
    exact trodAll_mk1 (shut_bool hb true)
  · rw [List.append_nil, hfn]
    exact trodAll_stays hl hg hp hA hlt
  · rw [List.append_nil, hfn, hv]
    rfl
/-- The witness's world: the settled one with the tables laid. -/
noncomputable def base0R (os : Os) : World := World.holding Tryz.prog os ⟨#[], #[], []⟩
noncomputable def worldLaid (os : Os) : World :=
  { base0R os with heap := ((((base0R os).heap.modify 2 fun
      | .cells _ t frozen => .cells #[.int .u8 0, .int .u8 1, .int .u8 28, .int .u8 2, .int .u8 29, .int .u8 14, .int .u8 24, .int .u8 3, .int .u8 30, .int .u8 22, .int .u8 20, .int .u8 15, .int .u8 25, .int .u8 17, .int .u8 4, .int .u8 8, .int .u8 31, .int .u8 27, .int .u8 13, .int .u8 23, .int .u8 21, .int .u8 19, .int .u8 16, .int .u8 7, .int .u8 26, .int .u8 12, .int .u8 18, .int .u8 6, .int .u8 11, .int .u8 5, .int .u8 10, .int .u8 9] t frozen
      | o => o).modify 3 fun
      | .cells _ t frozen => .cells #[.int .u8 0, .int .u8 1, .int .u8 56, .int .u8 2, .int .u8 57, .int .u8 49, .int .u8 28, .int .u8 3, .int .u8 61, .int .u8 58, .int .u8 42, .int .u8 50, .int .u8 38, .int .u8 29, .int .u8 17, .int .u8 4, .int .u8 62, .int .u8 47, .int .u8 59, .int .u8 36, .int .u8 45, .int .u8 43, .int .u8 51, .int .u8 22, .int .u8 53, .int .u8 39, .int .u8 33, .int .u8 30, .int .u8 24, .int .u8 18, .int .u8 12, .int .u8 5, .int .u8 63, .int .u8 55, .int .u8 48, .int .u8 27, .int .u8 60, .int .u8 41, .int .u8 37, .int .u8 16, .int .u8 46, .int .u8 35, .int .u8 44, .int .u8 21, .int .u8 52, .int .u8 32, .int .u8 23, .int .u8 11, .int .u8 54, .int .u8 26, .int .u8 40, .int .u8 15, .int .u8 34, .int .u8 20, .int .u8 31, .int .u8 10, .int .u8 25, .int .u8 14, .int .u8 19, .int .u8 9, .int .u8 13, .int .u8 8, .int .u8 7, .int .u8 6] t frozen
      | o => o).modify 0 fun
      | .cells _ t frozen => .cells #[.int .u64 1, .int .u64 10, .int .u64 100, .int .u64 1000, .int .u64 10000, .int .u64 100000, .int .u64 1000000, .int .u64 10000000, .int .u64 100000000, .int .u64 1000000000, .int .u64 10000000000, .int .u64 100000000000, .int .u64 1000000000000, .int .u64 10000000000000, .int .u64 100000000000000, .int .u64 1000000000000000, .int .u64 10000000000000000, .int .u64 100000000000000000, .int .u64 1000000000000000000, .int .u64 10000000000000000000] t frozen
      | o => o) }
def laidAll : List (String × DataW Unit) := [("math/bits.deBruijn32tab", Rows.laid_math_bits_deBruijn32tab), ("math/bits.deBruijn64tab", Rows.laid_math_bits_deBruijn64tab), ("internal/strconv.uint64pow10", Rows.laid_internal_strconv_uint64pow10)]
theorem pow_only : (laidAll.filter fun x => x.1 == "internal/strconv.uint64pow10") = [("internal/strconv.uint64pow10", Lib.tabData .u64 Lib.pow10Tab)] := by kernel_rfl
/-- What the library's own variables hold. -/
theorem env_of {W : World} (h1 : laidMetH Tryz.prog laidAll W) (h2 : W.ShapedOpen Tryz.prog) : Env W := by
  refine ⟨cell_of_shapedOpen_int (g := 1) (t := 3) (zero := #[.int .i64 0]) h2 (of_decide_eq_true (by kernel_rfl)) (by kernel_rfl) rfl (by kernel_rfl) (by kernel_rfl) Tryz.underlying3, ?_⟩
  have h := h1.filter (fun x => x.1 == "internal/strconv.uint64pow10")
  rw [pow_only] at h
  have h3 := (laidMetH_iff.1 h).1
  have h4 : laidMet Tryz.prog [("internal/strconv.uint64pow10", Lib.tabData .u64 Lib.pow10Tab)] W := h3
  exact Lib.tabIs_of_head (g := 0) (t := 166) (e := 148) (n := 20) (by kernel_rfl) (by kernel_rfl) Tryz.underlying166 Tryz.underlying148 (by kernel_rfl) (by kernel_rfl) h4
end Go.Proofs.YtafncfomiolmgaaGreatDoor

/- What the lists of authorities and relations, the relations and the trees that come in read as. No condition. -/
namespace Go.Proofs.YtafncfomiolmgaaGreatDoor
open Go.ChangeShapes Go.WideShapes Go.ChangeAt Go.RowKit

theorem spot_none {w : World} {a : Addr} {u : Value} (h : w.cell? a = some u) : a.spot = none := by
  unfold World.cell? at h
  split at h
  · split at h
    · cases h
    · rename_i hs
      cases hz : a.spot with
      | none => rfl
      | some x => rw [hz] at hs; simp at hs
  · cases h
/-- A slice that is led to, whose elements read as things of one kind. -/
theorem open_in {α : Type} {H : Type} {enc : TypeId × Value → H} {P : Program} {W : World} {k n : Nat} {t e : TypeId} {cs : List Value} {x : DataW H × List MemPlace} (f : α → List Value) (Q : α → Prop) (hk : ∀ x, (f x).length = k) (h0 : 0 < k)
    (ht : P.underlying t = some (.slice e)) (hc : P.cellsOf e = k) (hel : ∀ n cs x, DataW.trod enc P W 0 (fun _ => true) true n e cs = some x → ∃ a, cs = f a ∧ Q a)
    (hf : DataW.trod enc P W 0 (fun _ => true) true n t cs = some x) : ∃ v, cs = [v] ∧ ∃ l : List α, Rd W k v (l.flatMap f) ∧ ∀ a ∈ l, Q a := by
  rcases Go.Deep.open_slice ht hf with ⟨hn, -⟩ | ⟨a, len0, cap0, m, n, D, Pl, hn, -, hle, hmx, hm, -, hcell⟩
  · exact ⟨_, hn, [], Rd.nil W k, (fun _ h => by cases h)⟩
  · refine ⟨_, hn, ?_⟩
    simp only [if_true] at hm
    subst hm
    rw [hc] at hcell
    have key : ∀ m, m ≤ len0 → ∃ l : List α, l.length = m ∧ (∀ a ∈ l, Q a) ∧ ∀ i (hi : i < l.length) j, j < k → W.cell? (a.add (i * k + j)) = (f l[i])[j]? := by
      intro m
      induction m with
      | zero => exact fun _ => ⟨[], rfl, (fun _ h => by cases h), fun i hi => absurd hi (Nat.not_lt_zero _)⟩
      | succ m ih =>
        intro hm
        obtain ⟨l, hl, hQ, hr⟩ := ih (by omega)
        obtain ⟨cs', hcs, htr⟩ := hcell m (by omega)
        obtain ⟨x, rfl, hx⟩ := hel _ _ _ htr
        obtain ⟨-, -, hcs⟩ := World.cells?_some hcs
        refine ⟨l ++ [x], by simp [hl], fun b hb => ?_, fun i hi j hj => ?_⟩
        · rcases List.mem_append.1 hb with h | h
          · exact hQ b h
          · rw [List.mem_singleton.1 h]; exact hx
        · by_cases hi' : i < l.length
          · rw [hr i hi' j hj, List.getElem_append_left hi']
          · have : i = m := by simp at hi; omega
            subst this
            have := hcs j hj
            rw [Go.Deep.add_add] at this
            rw [this, List.getElem_append_right (by omega)]
            simp [hl]
    obtain ⟨l, hl, hQ, hr⟩ := key len0 (Nat.le_refl _)
    refine ⟨l, ⟨some a, len0, _, rfl, by rw [flatMap_len f k hk, hl], hle, hmx, fun hpos => ?_⟩, hQ⟩
    have hz := hr 0 (by omega) 0 h0
    have hlt0 : 0 < (f (l[0]'(by omega))).length := by rw [hk]; exact h0
    rw [List.getElem?_eq_getElem hlt0] at hz
    have hsp := spot_none hz
    have ha0 : a.add (0 * k + 0) = a := by simp [Addr.add]
    rw [ha0] at hsp hz
    obtain ⟨b, off, sp⟩ := a
    obtain rfl : sp = none := hsp
    refine ⟨b, off, rfl, World.block_lt_of_cell? W _ hz, fun j u hu => ?_⟩
    have hj : j < len0 * k := by
      have := (List.getElem?_eq_some_iff.1 hu).1
      rwa [flatMap_len f k hk, hl] at this
    have hdiv : j / k < len0 := Nat.div_lt_of_lt_mul (by rw [Nat.mul_comm]; exact hj)
    have hmod : j % k < k := Nat.mod_lt _ h0
    have e : j = j / k * k + j % k := by rw [Nat.mul_comm]; exact (Nat.div_add_mod j k).symm
    have h1 := hr (j / k) (by omega) (j % k) hmod
    rw [add_lit, ← e] at h1
    rw [h1, ← flatMap_get f k hk l (j / k) (j % k) (by omega) hmod, ← e]
    exact hu
section
variable {H : Type} {enc : TypeId × Value → H} {W : World}
set_option maxRecDepth 100000 in
theorem in_int {n : Nat} {cs : List Value} {x : DataW H × List MemPlace} (h : DataW.trod enc Tryz.prog W 0 (fun _ => true) true n 3 cs = some x) : ∃ a : Int, cs = [.int .i64 a] := by
  obtain ⟨a, ha, -⟩ := DataW.trod_int Tryz.underlying3 h
  exact ⟨a, ha⟩
set_option maxRecDepth 100000 in
theorem in_slI {n : Nat} {cs : List Value} {x : DataW H × List MemPlace} (h : DataW.trod enc Tryz.prog W 0 (fun _ => true) true n 32 cs = some x) : ∃ v, cs = [v] ∧ ∃ l, SlI W v l := by
  obtain ⟨v, hv, l, hl, -⟩ := open_in (k := 1) oneI (fun _ => True) (fun _ => rfl) (by omega) Tryz.underlying32 (by kernel_rfl) (fun n cs x hx => by obtain ⟨a, ha⟩ := in_int hx; exact ⟨a, ha, trivial⟩) h
  exact ⟨v, hv, l, hl⟩
theorem choose_list {α β : Type} {R : α → β → Prop} : ∀ l : List α, (∀ a ∈ l, ∃ b, R a b) → ∃ m : List β, l.length = m.length ∧ ∀ i (h : i < l.length) (h' : i < m.length), R l[i] m[i]
  | [], _ => ⟨[], rfl, fun _ h => absurd h (Nat.not_lt_zero _)⟩
  | a :: l, h => by
    obtain ⟨b, hb⟩ := h a (List.mem_cons_self ..)
    obtain ⟨m, hm, hr⟩ := choose_list l (fun x hx => h x (List.mem_cons_of_mem _ hx))
    refine ⟨b :: m, by simp [hm], fun i h1 h2 => ?_⟩
    cases i with
    | zero => exact hb
    | succ i => exact hr i (by simpa using h1) (by simpa using h2)
set_option maxRecDepth 100000 in
theorem in_br {n : Nat} {cs : List Value} {x : DataW H × List MemPlace} (h : DataW.trod enc Tryz.prog W 0 (fun _ => true) true n 53 cs = some x) : ∃ c : BrC, cs = c.cells ∧ ∃ a, BrOk W c a := by
  obtain ⟨xs, m, -, -, hl, hlen, hf⟩ := DataW.trod_struct Tryz.underlying53 h
  have hl4 : cs.length = 6 := hl.trans (by kernel_rfl)
  match xs, hlen with
  | [y0, y1], _ =>
    have h0 := hf 0 _ rfl
    have h1 := hf 1 _ rfl
    match cs, hl4 with
    | [c0, c1, c2, c3, c4, c5], _ =>
      have k0 : Tryz.prog.cellsOf 51 = 5 := by kernel_rfl
      have k4 : Tryz.prog.cellsOf 32 = 1 := by kernel_rfl
      simp only [List.getElem_toArray, List.getElem_cons_zero, List.getElem_cons_succ, k0, k4, List.getElem?_cons_zero, List.getElem?_cons_succ, List.drop_zero, List.drop_succ_cons, List.take_succ_cons, List.take_zero] at h0 h1
      obtain ⟨us, m2, -, -, hl2, hlen2, hg⟩ := DataW.trod_struct Tryz.underlying51 h0
      match us, hlen2 with
      | [z0, z1, z2, z3, z4], _ =>
        have g0 := hg 0 _ rfl
        have g1 := hg 1 _ rfl
        have g2 := hg 2 _ rfl
        have g3 := hg 3 _ rfl
        have g4 := hg 4 _ rfl
        have k1 : Tryz.prog.cellsOf 3 = 1 := by kernel_rfl
        have k2 : Tryz.prog.cellsOf 9 = 1 := by kernel_rfl
        simp only [List.getElem_toArray, List.getElem_cons_zero, List.getElem_cons_succ, k1, k2, List.getElem?_cons_zero, List.getElem?_cons_succ, List.drop_zero, List.drop_succ_cons, List.take_succ_cons, List.take_zero] at g0 g1 g2 g3 g4
        obtain ⟨a, ha⟩ := in_int g0
        obtain ⟨b, hb⟩ := in_int g1
        obtain ⟨c, hc⟩ := in_int g2
        obtain ⟨d, hd, -⟩ := DataW.trod_string Tryz.underlying9 g3
        obtain ⟨e, he, -⟩ := DataW.trod_string Tryz.underlying9 g4
        obtain ⟨kv, hx, ks, hks⟩ := in_slI h1
        simp only [List.cons.injEq, and_true] at ha hb hc hd he hx
        subst ha hb hc hd he hx
        exact ⟨⟨a, b, c, d, e, c5⟩, rfl, ⟨a, b, c, d, e, ks⟩, rfl, hks⟩
set_option maxRecDepth 100000 in
theorem in_slBr {n : Nat} {cs : List Value} {x : DataW H × List MemPlace} (h : DataW.trod enc Tryz.prog W 0 (fun _ => true) true n 33 cs = some x) : ∃ v, cs = [v] ∧ ∃ l, SlBr W v l := by
  obtain ⟨v, hv, l, hl, hQ⟩ := open_in (k := 6) BrC.cells (fun c => ∃ a, BrOk W c a) (fun _ => rfl) (by omega) Tryz.underlying33 (by kernel_rfl) (fun n cs x hx => in_br hx) h
  obtain ⟨m, hm, hr⟩ := choose_list l hQ
  exact ⟨v, hv, m, l, hl, hm, hr⟩
set_option maxRecDepth 100000 in
theorem open_tree {base : Nat} {v : Value} {d : DataW H} {ps : List MemPlace} (hval : Value.okWide Tryz.prog W .any base 35 v) (h : DataW.Trod enc Tryz.prog W 0 (fun _ => true) true 35 v d ps) : ∃ rv bv, v = .agg #[rv, bv] ∧ ∃ t, TrOk W rv bv t := by
  obtain ⟨cs, rfl, -⟩ := okWide_struct Tryz.underlying35 hval
  obtain ⟨fuel, hf⟩ := h
  obtain ⟨xs, m, -, -, hl, hlen, hf⟩ := DataW.trod_struct Tryz.underlying35 hf
  simp only [Value.cells] at hl hf
  obtain ⟨cs⟩ := cs
  have hl4 : cs.length = 2 := hl.trans (by kernel_rfl)
  match xs, hlen with
  | [y0, y1], _ =>
    have h0 := hf 0 _ rfl
    have h1 := hf 1 _ rfl
    match cs, hl4 with
    | [c0, c1], _ =>
      have k1 : Tryz.prog.cellsOf 32 = 1 := by kernel_rfl
      have k2 : Tryz.prog.cellsOf 33 = 1 := by kernel_rfl
      simp only [List.getElem_toArray, List.getElem_cons_zero, List.getElem_cons_succ, k1, k2, List.getElem?_cons_zero, List.getElem?_cons_succ, List.drop_zero, List.drop_succ_cons, List.take_succ_cons, List.take_zero] at h0 h1
      obtain ⟨rv, hrv, rs, hrs⟩ := in_slI h0
      obtain ⟨bv, hbv, bs, hbs⟩ := in_slBr h1
      simp only [List.cons.injEq, and_true] at hrv hbv
      subst hrv hbv
      exact ⟨c0, c1, rfl, ⟨rs, bs⟩, hrs, hbs⟩
end
end Go.Proofs.YtafncfomiolmgaaGreatDoor

/- What an operation that comes in reads as. No condition. -/
namespace Go.Proofs.YtafncfomiolmgaaGreatDoor
open Go.ChangeShapes Go.WideShapes Go.ChangeAt Go.RowKit

section
variable {H : Type} {enc : TypeId × Value → H} {W : World}
set_option maxRecDepth 100000 in
theorem in_origin {n : Nat} {cs : List Value} {x : DataW H × List MemPlace} (h : DataW.trod enc Tryz.prog W 0 (fun _ => true) true n 23 cs = some x) : ∃ a b c : Int, cs = [.int .i64 a, .int .i64 b, .int .i64 c] := by
  obtain ⟨xs, m, -, -, hl, hlen, hf⟩ := DataW.trod_struct Tryz.underlying23 h
  have hl4 : cs.length = 3 := hl.trans (by kernel_rfl)
  match xs, hlen with
  | [y0, y1, y2], _ =>
    have h0 := hf 0 _ rfl
    have h1 := hf 1 _ rfl
    have h2 := hf 2 _ rfl
    match cs, hl4 with
    | [c0, c1, c2], _ =>
      have k1 : Tryz.prog.cellsOf 3 = 1 := by kernel_rfl
      simp only [List.getElem_toArray, List.getElem_cons_zero, List.getElem_cons_succ, k1, List.getElem?_cons_zero, List.getElem?_cons_succ, List.drop_zero, List.drop_succ_cons, List.take_succ_cons, List.take_zero] at h0 h1 h2
      obtain ⟨a, ha⟩ := in_int h0
      obtain ⟨b, hb⟩ := in_int h1
      obtain ⟨c, hc⟩ := in_int h2
      simp only [List.cons.injEq, and_true] at ha hb hc
      subst ha hb hc
      exact ⟨a, b, c, rfl⟩
set_option maxRecDepth 100000 in
theorem in_opn {n : Nat} {cs : List Value} {x : DataW H × List MemPlace} (h : DataW.trod enc Tryz.prog W 0 (fun _ => true) true n 25 cs = some x) : ∃ o : Opn, Value.agg cs.toArray = o.agg ∧ (Lit.int .i64 o.kind).wf = true := by
  obtain ⟨xs, m, -, -, hl, hlen, hf⟩ := DataW.trod_struct Tryz.underlying25 h
  have hl4 : cs.length = 12 := hl.trans (by kernel_rfl)
  match xs, hlen with
  | [y0, y1, y2, y3, y4, y5, y6, y7, y8, y9], _ =>
    have h0 := hf 0 _ rfl
    have h1 := hf 1 _ rfl
    have h2 := hf 2 _ rfl
    have h3 := hf 3 _ rfl
    have h4 := hf 4 _ rfl
    have h5 := hf 5 _ rfl
    have h6 := hf 6 _ rfl
    have h7 := hf 7 _ rfl
    have h8 := hf 8 _ rfl
    have h9 := hf 9 _ rfl
    match cs, hl4 with
    | [c0, c1, c2, c3, c4, c5, c6, c7, c8, c9, c10, c11], _ =>
      have k1 : Tryz.prog.cellsOf 3 = 1 := by kernel_rfl
      have k2 : Tryz.prog.cellsOf 9 = 1 := by kernel_rfl
      have k3 : Tryz.prog.cellsOf 23 = 3 := by kernel_rfl
      simp only [List.getElem_toArray, List.getElem_cons_zero, List.getElem_cons_succ, k1, k2, k3, List.getElem?_cons_zero, List.getElem?_cons_succ, List.drop_zero, List.drop_succ_cons, List.take_succ_cons, List.take_zero] at h0 h1 h2 h3 h4 h5 h6 h7 h8 h9
      obtain ⟨a0, e0⟩ := in_int h0
      obtain ⟨a1, e1⟩ := in_int h1
      obtain ⟨a2, e2, -, hkw⟩ := DataW.trod_int Tryz.underlying3 h2
      obtain ⟨a3, e3⟩ := in_int h3
      obtain ⟨a4, e4⟩ := in_int h4
      obtain ⟨a5, e5⟩ := in_int h5
      obtain ⟨a6, e6⟩ := in_int h6
      obtain ⟨a7, e7, -⟩ := DataW.trod_string Tryz.underlying9 h7
      obtain ⟨a8, e8, -⟩ := DataW.trod_string Tryz.underlying9 h8
      obtain ⟨a9, a10, a11, e9⟩ := in_origin h9
      simp only [List.cons.injEq, and_true] at e0 e1 e2 e3 e4 e5 e6 e7 e8 e9
      obtain ⟨rfl, rfl, rfl⟩ := e9
      subst e0 e1 e2 e3 e4 e5 e6 e7 e8
      exact ⟨⟨a0, a1, a2, a3, a4, a5, a6, a7, a8, a9, a10, a11⟩, rfl, hkw⟩
set_option maxRecDepth 100000 in
theorem open_opn {base : Nat} {v : Value} {d : DataW H} {ps : List MemPlace} (hval : Value.okWide Tryz.prog W .any base 25 v) (h : DataW.Trod enc Tryz.prog W 0 (fun _ => true) true 25 v d ps) : ∃ o : Opn, v = o.agg ∧ (Lit.int .i64 o.kind).wf = true := by
  obtain ⟨cs, rfl, -⟩ := okWide_struct Tryz.underlying25 hval
  obtain ⟨fuel, hf⟩ := h
  obtain ⟨o, ho, hk⟩ := in_opn hf
  exact ⟨o, ho, hk⟩
end
end Go.Proofs.YtafncfomiolmgaaGreatDoor
