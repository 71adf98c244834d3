/- Lemmas on what the functions of the program and of the library compute: T5, A4, A5, T6, T7, A6, B2, B3, T8. The conditions stand at each. -/
import Derived.Test.YtjaknioojpgkiaaGreatDoorQ3
import Derived.Test.YtjaknioojpgkiaaGreatDoorQ2
import Derived.Deep.RegionHeld3
/- tree: the check of the children, depth, walked. The condition: the lists are short; for depth: each unit is placed. -/
namespace Go.Proofs.YtjaknioojpgkiaaGreatDoor
open Go.RowKit

def FewBr (l : List Br) : Prop := l.length ≤ 1000000 ∧ ∀ i (h : i < l.length), l[i].kids.length ≤ 1000000
set_option maxHeartbeats 2000000 in
theorem tKids (l : List Br) (i : Nat) (hi : i < l.length) (rv bv : Value) (w : World) (hv : SlBr w bv l) (hf : FewBr l) :
    Calls Tryz.prog 184 #[.agg #[rv, bv], .int .i64 i] w (RetIff (sortI l[i].kids = kidsOf l l[i].id) w) := by
  have HV := Lib.hid hv
  obtain ⟨A, c, rfl, hlc, hc, hr⟩ := hv.open_
  unfold maxLen at hc
  obtain ⟨b, off, rfl, hbk, hcell⟩ := hr (by omega)
  obtain ⟨kv, hkv, hcl⟩ := hcell i hi
  obtain ⟨c0, c1, c2, c3, c4, c5⟩ := hcl w (Grew.refl w)
  have kJ := fun W (hW : Grew w W) => tJust l l[i].id l[i].kids rv (.slice (some ⟨b, off, none⟩) l.length c) kv W (HV.out.mono hW) (hkv.mono hW) hf.1 (hf.2 i hi)
  have hiz : (i : Int) < (l.length : Int) := by omega
  have h0z : (0 : Int) ≤ (i : Int) := by omega
  obtain ⟨Az, cz, rfl, -, -, -⟩ := hkv.open_
  by_cases hS : sortI l[i].kids = kidsOf l l[i].id
  · have HS := Lib.hid hS
    rw [decide_eq_true hS] at kJ
    clear hS hcell hcl hr hv hkv hf
    generalize (sortI l[i].kids = kidsOf l l[i].id) = PA at HS ⊢
    generalize l[i] = y at c0 c1 c2 c3 c4 c5 kJ
    obtain ⟨yi, yp, yl, yt, ym, yk⟩ := y
    dsimp only at c0 c1 c2 c3 c4 c5 kJ
    have KJ := Lib.hid kJ
    clear kJ
    go_enter Tryz.func184, Tryz.ntmps184
    go_wp2_with fail
    refine (KJ.out _ (((Grew.refl w).alloc _).alloc _)).mono ?_
    rintro e w1 ⟨rfl, g1⟩
    dsimp only
    go_wp2
    go_ret
    exact RetIff.yes HS.out ((((Grew.refl w).alloc _).alloc _).trans g1)
  · have HS := Lib.hid hS
    rw [decide_eq_false hS] at kJ
    clear hS hcell hcl hr hv hkv hf
    generalize (sortI l[i].kids = kidsOf l l[i].id) = PA at HS ⊢
    generalize l[i] = y at c0 c1 c2 c3 c4 c5 kJ
    obtain ⟨yi, yp, yl, yt, ym, yk⟩ := y
    dsimp only at c0 c1 c2 c3 c4 c5 kJ
    have KJ := Lib.hid kJ
    clear kJ
    go_enter Tryz.func184, Tryz.ntmps184
    go_wp2_with fail
    refine (KJ.out _ (((Grew.refl w).alloc _).alloc _)).mono ?_
    rintro e w1 ⟨rfl, g1⟩
    dsimp only
    go_wp2
    go_ret
    exact RetIff.no 10 (by decide) HS.out ((((Grew.refl w).alloc _).alloc _).trans g1)

/-- A block that holds a unit. -/
def HoldsU (W : World) (C : Nat) (y : Br) : Prop := W.heap[C]? = some (.cells #[.int .i64 y.id, .int .i64 y.parent, .int .i64 y.level, .string y.title, .string y.mark] 54)
theorem HoldsU.cells {W : World} {C : Nat} {y : Br} (h : HoldsU W C y) : W.cell? ⟨C, 0, none⟩ = some (.int .i64 y.id) ∧ W.cell? ⟨C, 1, none⟩ = some (.int .i64 y.parent) ∧ W.cell? ⟨C, 2, none⟩ = some (.int .i64 y.level) ∧ W.cell? ⟨C, 3, none⟩ = some (.string y.title) ∧ W.cell? ⟨C, 4, none⟩ = some (.string y.mark) := by
  refine ⟨?_, ?_, ?_, ?_, ?_⟩ <;> rw [cell_of_row _ _ _ _ _ _ h] <;> simp
theorem HoldsU.free {W : World} {C : Nat} {y : Br} (h : HoldsU W C y) (j : Nat) : W.frozen? ⟨C, j, none⟩ = false := by
  unfold HoldsU at h
  simp [World.frozen?, h]
theorem HoldsU.mono {W W' : World} {C : Nat} {y : Br} (h : HoldsU W C y) (hg : Grew W W') : HoldsU W' C y := by
  have hlt : C < W.heap.size := by
    rcases Nat.lt_or_ge C W.heap.size with hlt | hge
    · exact hlt
    · unfold HoldsU at h; rw [Array.getElem?_eq_none hge] at h; cases h
  exact (hg.block C hlt).trans h
theorem holdsU_new (w : World) (o : Obj) (y : Br) : HoldsU ((w.alloc o).alloc (.cells #[.int .i64 y.id, .int .i64 y.parent, .int .i64 y.level, .string y.title, .string y.mark] 54)) (w.heap.size + 1) y := by
  have := heap_alloc_new (w.alloc o) (.cells #[.int .i64 y.id, .int .i64 y.parent, .int .i64 y.level, .string y.title, .string y.mark] 54)
  unfold HoldsU
  simpa using this
theorem holdsU_last (w : World) (y : Br) : HoldsU (w.alloc (.cells #[.int .i64 y.id, .int .i64 y.parent, .int .i64 y.level, .string y.title, .string y.mark] 54)) w.heap.size y := heap_alloc_new w _
theorem holdsU_lastH (w : World) (H : Nat) (h : w.heap.size = H) (y : Br) : HoldsU (w.alloc (.cells #[.int .i64 y.id, .int .i64 y.parent, .int .i64 y.level, .string y.title, .string y.mark] 54)) H y := by
  subst h
  exact holdsU_last w y
theorem HoldsU.lt {W : World} {C : Nat} {y : Br} (h : HoldsU W C y) : C < W.heap.size := by
  rcases Nat.lt_or_ge C W.heap.size with hlt | hge
  · exact hlt
  · unfold HoldsU at h; rw [Array.getElem?_eq_none hge] at h; cases h
theorem deep_zero (l : List Br) (n : Nat) (b : Br) (h : b.parent = 0) : deep l n b = some 1 := by cases n <;> simp [deep, h]
theorem deep_up (l : List Br) (n : Nat) (b p : Br) (h : b.parent ≠ 0) (hp : brFind l b.parent = some p) : deep l (n + 1) b = (deep l n p).map (· + 1) := by simp [deep, h, hp]
theorem deep_cycle (l : List Br) (b : Br) (h : b.parent ≠ 0) : deep l 0 b = none := by simp [deep, h]
set_option maxRecDepth 100000 in
set_option maxHeartbeats 4000000 in
theorem tDepth (l : List Br) (i : Nat) (hi : i < l.length) (rv bv : Value) (w : World) (hv : SlBr w bv l) (hlen : l.length ≤ 1000000) (hP : ∀ i (h : i < l.length), BrPlaced l l[i]) :
    Calls Tryz.prog 188 #[.agg #[rv, bv], .int .i64 i] w (RetIff (BrDeep l l[i]) w) := by
  have HV := Lib.hid hv
  obtain ⟨A, c, rfl, hlc, hc, hr⟩ := hv.open_
  unfold maxLen at hc
  obtain ⟨b, off, rfl, hbk, hcell⟩ := hr (by omega)
  have HCELL := Lib.hid hcell
  obtain ⟨kv, -, hcl⟩ := hcell i hi
  obtain ⟨c0, c1, c2, c3, c4, -⟩ := hcl w (Grew.refl w)
  have hiz : (i : Int) < (l.length : Int) := by omega
  have h0z : (0 : Int) ≤ (i : Int) := by omega
  have HM := Lib.hid (List.getElem_mem hi)
  have HD : RowKit.Hid (BrDeep l l[i] ↔ ∃ d, deep l l.length l[i] = some d ∧ d ≤ 12) := Iff.rfl
  generalize BrDeep l l[i] = PA at HD ⊢
  generalize hy : l[i] = y at c0 c1 c2 c3 c4 HD HM
  clear hy
  obtain ⟨yi, yp, yl, yt, ym, yk⟩ := y
  dsimp only at c0 c1 c2 c3 c4
  have HF : RowKit.Hid (∀ y ∈ l, y.parent ≠ 0 → ∃ p, brFind l y.parent = some p) := fun y hy hne => by
    obtain ⟨j, hj, rfl⟩ := List.mem_iff_getElem.1 hy
    have := hP j hj
    unfold BrPlaced at this
    rw [if_neg hne] at this
    obtain ⟨p, hp, _⟩ := this
    exact ⟨p, hp⟩
  clear hcell hcl hr hv hP
  go_enter Tryz.func188, Tryz.ntmps188
  go_wp2
  go_loopg [5, 6] (l.length + 1) (fun gg s5 s6 wr => ∃ (m C : Nat) (y : Br), s5 = .int .i64 (m + 1 : Nat) ∧ s6 = .pointer (some ⟨C, 0, none⟩) ∧ m ≤ l.length ∧ l.length + 1 - m ≤ gg ∧ w.heap.size + 1 ≤ C ∧ Aside (y ∈ l) ∧ Aside (HoldsU wr C y) ∧ Aside (Grew (w.alloc (.cells [rv, .slice (some ⟨b, off, none⟩) l.length c].toArray 25)) wr) ∧ Aside (deep l l.length ⟨yi, yp, yl, yt, ym, yk⟩ = (deep l (l.length - m) y).map (· + m)))
  case atStart => exact ⟨0, w.heap.size + 1, ⟨yi, yp, yl, yt, ym, yk⟩, rfl, rfl, by omega, by omega, by omega, (show Aside _ from HM.out), (show Aside _ from holdsU_new w _ ⟨yi, yp, yl, yt, ym, yk⟩), (show Aside _ from (Grew.refl _).alloc _), (show Aside _ from (show _ = _ by simp))⟩
  case round =>
    obtain ⟨m, C, y, rfl, rfl, hm, hgk, hC, HYM, HU, BW, HDP⟩ := hrel
    have GW : Aside (Grew w wr) := ((Grew.refl w).alloc _).trans BW.out
    have t1 := new_cell BW.out 1 _ rfl
    have t0 := new_cell BW.out 0 _ rfl
    obtain ⟨u0, u1, u2, u3, u4⟩ := HU.out.cells
    by_cases hp0 : y.parent = 0
    · have hdd : deep l l.length ⟨yi, yp, yl, yt, ym, yk⟩ = some (1 + m) := by rw [HDP.out, deep_zero _ _ _ hp0]; rfl
      have hpp : (y.parent != 0) = false := by simpa using hp0
      have HDD := Lib.hid hdd
      generalize y.parent = zp at u1 hpp
      clear hdd hp0 u0 u2 u3 u4
      by_cases h12 : 12 < m + 1
      · have h12z : (12 : Int) < ((m + 1 : Nat) : Int) := by omega
        have Hn : RowKit.Hid (¬ PA) := fun h => by
          obtain ⟨d, hd, hle⟩ := HD.out.1 h
          rw [HDD.out] at hd
          cases hd
          omega
        go_wp2
        go_ret
        exact RetIff.no 15 (by decide) Hn.out GW.out
      · have h12z : ¬ (12 : Int) < ((m + 1 : Nat) : Int) := by omega
        have Hy : RowKit.Hid PA := HD.out.2 ⟨1 + m, HDD.out, by omega⟩
        go_wp2
        go_ret
        exact RetIff.yes Hy.out GW.out
    have hpp : (y.parent != 0) = true := by simpa using hp0
    by_cases hcy : l.length < m + 1
    · have hcyz : (l.length : Int) < ((m + 1 : Nat) : Int) := by omega
      have Hn : RowKit.Hid (¬ PA) := fun h => by
        obtain ⟨d, hd, hle⟩ := HD.out.1 h
        rw [HDP.out, show l.length - m = 0 by omega, deep_cycle _ _ hp0] at hd
        cases hd
      generalize y.parent = zp at u1 hpp
      clear hp0 u0 u2 u3 u4
      go_wp2
      go_ret
      exact RetIff.no 17 (by decide) Hn.out GW.out
    have hcyz : ¬ (l.length : Int) < ((m + 1 : Nat) : Int) := by omega
    obtain ⟨p, hfp⟩ := HF.out y HYM.out hp0
    obtain ⟨k, hk, ek, e⟩ := brIdx_some hfp
    have hdn : deep l l.length ⟨yi, yp, yl, yt, ym, yk⟩ = (deep l (l.length - (m + 1)) p).map (· + (m + 1)) := by
      rw [HDP.out, show l.length - m = (l.length - (m + 1)) + 1 by omega, deep_up _ _ _ p hp0 hfp, Option.map_map]
      congr 1
      funext d
      simp
      omega
    have HDN := Lib.hid hdn
    have HPM := Lib.hid (show p ∈ l by rw [← e]; exact List.getElem_mem hk)
    have kI := fun W (hW : Grew w W) => tIndex l y.parent rv (.slice (some ⟨b, off, none⟩) l.length c) W (HV.out.mono hW)
    rw [ek] at kI
    have hq := HCELL.out k hk
    rw [e] at hq
    have HQ := Lib.hid hq
    have KI := Lib.hid kI
    have hkz : (k : Int) < (l.length : Int) := by omega
    have h0k : (0 : Int) ≤ (k : Int) := by omega
    have HUU := Lib.hid HU.out
    clear kI hq e ek hfp hdn hp0 HDP HU
    generalize hzp : y.parent = zp at u1 hpp KI
    clear hzp u0 u2 u3 u4
    obtain ⟨pi, pp, pl, pt, pm, pk⟩ := p
    dsimp only at HQ
    obtain ⟨_, -, hq⟩ := HQ.out
    obtain ⟨d0, d1, d2, d3, d4, -⟩ := hq wr GW.out
    have f0 := Gr.cell d0
    have f1 := Gr.cell d1
    have f2 := Gr.cell d2
    have f3 := Gr.cell d3
    have f4 := Gr.cell d4
    have r0 := Gr.cell t0
    have r1 := Gr.cell t1
    have v1 := Gr.cell u1
    clear hq HQ d0 d1 d2 d3 d4
    go_wp2
    refine region_gr_last wr _ rfl (by kernel_rfl) (by kernel_rfl) (by kernel_rfl) (Grew.refl _) ?_
    simp only [blankLast]
    repeat (first | go_big_quiet_step ((go_at_call 133; exact Gr.calls _ (KI.out _ (GW.out.trans (Gr.g _))))) | quiet_step ((go_at_call 133; exact Gr.calls _ (KI.out _ (GW.out.trans (Gr.g _))))))
    refine wpQuiet_nil ?_
    intro _ hw'
    obtain ⟨wi, rfl⟩ := hw'
    have HU1 := HUU.out.mono wi.g
    have HG1 := Lib.hid wi.g
    have hlt1 := HUU.out.lt
    have hlt2 := wi.g.size
    obtain ⟨s0, s1, s2, s3, s4⟩ := HU1.cells
    have z0 := HU1.free 0
    have z1 := HU1.free 1
    have z2 := HU1.free 2
    have z3 := HU1.free 3
    have z4 := HU1.free 4
    clear HU1 u1 t0 t1 f0 f1 f2 f3 f4 r0 r1 v1
    go_simp
    go_wp2
    go_roundg (l.length + 1 - (m + 1))
    case measure => omega
    case rel =>
      refine ⟨m + 1, wi.W.heap.size, ⟨pi, pp, pl, pt, pm, pk⟩, by go_num, rfl, by omega, by omega, by omega, (show Aside _ from HPM.out), ?_, ?_, (show Aside _ from HDN.out)⟩
      · show HoldsU _ _ _
        with_reducible refine holdsU_lastH _ _ ?_ ⟨pi, pp, pl, pt, pm, pk⟩
        simp
      · show Grew _ _
        with_reducible refine Grew.alloc ?_ _
        repeat (with_reducible refine Grew.setCell ?_ (by simpa using hC) _)
        exact BW.out.trans HG1.out
end Go.Proofs.YtjaknioojpgkiaaGreatDoor

/- authority: index, successors, Check, walked. The condition: the library's own variables hold what they must. -/
namespace Go.Proofs.YtjaknioojpgkiaaGreatDoor
open Go.RowKit

theorem containsFuncI (l : List Int) (p : Int → Bool) (g : Nat) (lb : Array Value) (eg : ∀ args w, (callFunc g args).run Tryz.prog w = .ok (.enter g args) w) (v : Value) (w : World) (hv : SlI w v l)
    (hp : ∀ W x, Grew w W → x ∈ l → Calls Tryz.prog g (#[.int .i64 x] ++ lb) W fun e w' => e = .returned (.bool (p x)) ∧ Grew W w') :
    Calls Tryz.prog 41 #[v, .func (.func g) #[] lb] w fun e w' => e = .returned (.bool (l.any p)) ∧ Grew w w' := by
  have hi := Lib.hid (indexFuncI l p g lb eg v w hv hp)
  have hd : decide (0 ≤ idxP p l) = l.any p := idxP_any p l
  generalize idxP p l = i at hi hd
  have Hd := Lib.hid hd
  clear hv hp hd
  go_enter Tryz.func41, Tryz.ntmps41
  go_wp2_with (first | (go_at_call 104; refine hi.out.mono ?_; rintro e w1 ⟨rfl, hg⟩))
  go_ret
  exact ⟨ret_bool Hd.out, hg⟩
end Go.Proofs.YtjaknioojpgkiaaGreatDoor

/- authority: successors, Check, walked. The condition: the library's own variables hold what they must. -/
namespace Go.Proofs.YtjaknioojpgkiaaGreatDoor
open Go.RowKit

/-- A call that answers with two numbers, the second of which is 0 just if P holds. -/
def RetIff2 (P : Prop) (w : World) (e : Ending) (w' : World) : Prop := ∃ i n : Int, e = .returned (.tuple #[.int .i64 i, .int .i64 n]) ∧ (n = 0 ↔ P) ∧ Grew w w'
theorem RetIff2.no {P : Prop} {w w' : World} (i n : Int) (hn : n ≠ 0) (h : ¬ P) (hg : Grew w w') : RetIff2 P w (.returned (.tuple #[.int .i64 i, .int .i64 n])) w' := ⟨i, n, rfl, ⟨fun e => absurd e hn, fun e => absurd e h⟩, hg⟩
theorem RetIff2.yes {P : Prop} {w w' : World} (i : Int) (h : P) (hg : Grew w w') : RetIff2 P w (.returned (.tuple #[.int .i64 i, .int .i64 0])) w' := ⟨i, 0, rfl, ⟨fun _ => h, fun _ => rfl⟩, hg⟩
end Go.Proofs.YtjaknioojpgkiaaGreatDoor

/- tree.Check, walked. The conditions: the library's own variables hold what they must; the lists are short. -/
namespace Go.Proofs.YtjaknioojpgkiaaGreatDoor
open Go.RowKit

set_option maxRecDepth 100000 in
set_option maxHeartbeats 8000000 in
theorem tCheck (rs : List Int) (l : List Br) (rv bv : Value) (w : World) (hE : Env w) (hr : SlI w rv rs) (hv : SlBr w bv l) (hf : FewBr l) (hrl : rs.length ≤ 1000000) :
    Calls Tryz.prog 131 #[.agg #[rv, bv]] w (RetIff2 (RightT ⟨rs, l⟩) w) := by
  have HV := Lib.hid hv
  have HE := Lib.hid hE
  have HRR := Lib.hid hr
  have HF := Lib.hid hf
  obtain ⟨A, c, rfl, hlc, hc, -⟩ := hv.open_
  unfold maxLen at hc
  clear hv hE
  obtain ⟨Ar, cr, hrv, -, -, -⟩ := hr.open_
  clear hr hf
  by_cases h256 : 256 < l.length
  · have hb : (256 : Int) < (l.length : Int) := by omega
    have Hn : RowKit.Hid (¬ RightT ⟨rs, l⟩) := fun h => by have := h.1; dsimp only at this; omega
    go_enter Tryz.func131, Tryz.ntmps131
    go_wp2
    go_ret2
    exact RetIff2.no _ 8 (by decide) Hn.out ((Grew.refl w).alloc _)
  have hb : ¬ (256 : Int) < (l.length : Int) := by omega
  have HD : RowKit.Hid (RightT ⟨rs, l⟩ ↔ (∀ i (h : i < l.length), BrAlone l i h) ∧ (∀ i (h : i < l.length), BrPlaced l l[i]) ∧ (∀ i (h : i < l.length), sortI l[i].kids = kidsOf l l[i].id) ∧ sortI rs = kidsOf l 0 ∧ ∀ i (h : i < l.length), BrDeep l l[i]) := ⟨fun h => h.2, fun h => ⟨by show l.length ≤ 256; omega, h⟩⟩
  generalize RightT ⟨rs, l⟩ = PR at HD ⊢
  have K1 := Lib.hid (fun i hi W (hW : Grew w W) => tAlone l i hi rv (.slice A l.length c) W (HE.out.mono hW) (HV.out.mono hW))
  have K2 := Lib.hid (fun i hi W (hW : Grew w W) => tPlaced l i hi rv (.slice A l.length c) W (HV.out.mono hW))
  have K3 := Lib.hid (fun i hi W (hW : Grew w W) => tKids l i hi rv (.slice A l.length c) W (HV.out.mono hW) HF.out)
  have KJ := Lib.hid (fun W (hW : Grew w W) => tJust l 0 rs rv (.slice A l.length c) rv W (HV.out.mono hW) (HRR.out.mono hW) HF.out.1 hrl)
  have KD := Lib.hid (fun (hP : ∀ i (h : i < l.length), BrPlaced l l[i]) i hi W (hW : Grew w W) => tDepth l i hi rv (.slice A l.length c) W (HV.out.mono hW) HF.out.1 hP)
  clear HV HE HRR HF
  subst hrv
  go_enter Tryz.func131, Tryz.ntmps131
  go_wp2
  refine wp_loop_rounds 5 ?_
  rw [rounds_succ]
  go_wp2
  have HG0 := Lib.hid (show Grew w ((w.alloc (.cells [.slice Ar rs.length cr, .slice A l.length c].toArray 25)).alloc (.cells [.func (.func 186) #[] #[], .func (.func 187) #[] #[], .func (.func 184) #[] #[], .func (.func 188) #[] #[]].toArray 127)) from ((Grew.refl w).alloc _).alloc _)
  have HBA := Lib.hid (Grew.refl ((w.alloc (.cells [.slice Ar rs.length cr, .slice A l.length c].toArray 25)).alloc (.cells [.func (.func 186) #[] #[], .func (.func 187) #[] #[], .func (.func 184) #[] #[], .func (.func 188) #[] #[]].toArray 127)))
  go_loopg [33] l.length (fun gg s33 wr => ∃ k : Nat, k ≤ l.length ∧ l.length - k ≤ gg ∧ s33 = .int .i64 k ∧ Aside (Grew ((w.alloc (.cells [.slice Ar rs.length cr, .slice A l.length c].toArray 25)).alloc (.cells [.func (.func 186) #[] #[], .func (.func 187) #[] #[], .func (.func 184) #[] #[], .func (.func 188) #[] #[]].toArray 127)) wr) ∧ Aside (∀ i (h : i < l.length), i < k → BrAlone l i h))
  case atStart => exact ⟨0, by omega, by omega, rfl, (show Aside _ from Grew.refl _), (show Aside _ from fun i h h2 => by omega)⟩
  case round =>
    obtain ⟨k, hk, hgk, rfl, BW, M⟩ := hrel
    have b0 := tree_cell (HBA.out.trans BW.out) 0 _ rfl
    have b1 := tree_cell (HBA.out.trans BW.out) 1 _ rfl
    by_cases hlt : k < l.length
    · have hltz : (k : Int) < (l.length : Int) := by omega
      have HN : RowKit.Hid (¬ (BrAlone l k hlt) → ¬ PR) := fun h h2 => h ((HD.out.1 h2).1 k hlt)
      have HY : RowKit.Hid ((BrAlone l k hlt) → ∀ i (h : i < l.length), i < k + 1 → BrAlone l i h) := fun h i hi h2 => by
        by_cases e : i = k
        · subst e; exact h
        · exact M.out i hi (by omega)
      have KK := Lib.hid (K1.out k hlt _ (HG0.out.trans (HBA.out.trans BW.out)))
      generalize (BrAlone l k hlt) = PK at HN HY KK
      go_wp2_with fail
      refine KK.out.mono ?_
      rintro e w1 ⟨n, rfl, hnn, g1⟩
      have HNN := Lib.hid hnn
      have HG1 := Lib.hid g1
      clear hnn g1
      dsimp only
      by_cases hz : n = 0
      · subst hz
        have Hy := Lib.hid (HY.out (HNN.out.1 rfl))
        go_wp2
        go_roundg (l.length - (k + 1))
        case measure => omega
        case rel => exact ⟨k + 1, by omega, by omega, by go_num, (show Aside _ from BW.out.trans HG1.out), (show Aside _ from Hy.out)⟩
      · have hz' : (n != 0) = true := by simpa using hz
        have Hz := Lib.hid hz
        have Hn : RowKit.Hid (¬ PR) := HN.out (fun h => Hz.out (HNN.out.2 h))
        clear hz
        go_wp2
        go_ret2
        exact RetIff2.no _ n Hz.out Hn.out ((HG0.out.trans (HBA.out.trans BW.out)).trans HG1.out)
    have hltz : ¬ (k : Int) < (l.length : Int) := by omega
    have HALL1 := Lib.hid (fun i h => M.out i h (by omega))
    have HB1 := Lib.hid (HBA.out.trans BW.out)
    have fn1 := newer_cell HB1.out 1 _ rfl
    obtain ⟨wr1, rfl⟩ : ∃ wr1 : World, wr1 = wr := ⟨_, rfl⟩
    clear M BW
    go_wp2
    rw [rounds_succ]
    go_wp2
    go_loopg [33] l.length (fun gg s33 wr => ∃ k : Nat, k ≤ l.length ∧ l.length - k ≤ gg ∧ s33 = .int .i64 k ∧ Aside (Grew wr1 wr) ∧ Aside (∀ i (h : i < l.length), i < k → BrPlaced l l[i]))
    case atStart => exact ⟨0, by omega, by omega, rfl, (show Aside _ from Grew.refl _), (show Aside _ from fun i h h2 => by omega)⟩
    case round =>
      obtain ⟨k, hk, hgk, rfl, BW, M⟩ := hrel
      have b0 := tree_cell (HB1.out.trans BW.out) 0 _ rfl
      have b1 := tree_cell (HB1.out.trans BW.out) 1 _ rfl
      by_cases hlt : k < l.length
      · have hltz : (k : Int) < (l.length : Int) := by omega
        have HN : RowKit.Hid (¬ (BrPlaced l l[k]) → ¬ PR) := fun h h2 => h ((HD.out.1 h2).2.1 k hlt)
        have HY : RowKit.Hid ((BrPlaced l l[k]) → ∀ i (h : i < l.length), i < k + 1 → BrPlaced l l[i]) := fun h i hi h2 => by
          by_cases e : i = k
          · subst e; exact h
          · exact M.out i hi (by omega)
        have KK := Lib.hid (K2.out k hlt _ (HG0.out.trans (HB1.out.trans BW.out)))
        generalize (BrPlaced l l[k]) = PK at HN HY KK
        go_wp2_with fail
        refine KK.out.mono ?_
        rintro e w1 ⟨n, rfl, hnn, g1⟩
        have HNN := Lib.hid hnn
        have HG1 := Lib.hid g1
        clear hnn g1
        dsimp only
        by_cases hz : n = 0
        · subst hz
          have Hy := Lib.hid (HY.out (HNN.out.1 rfl))
          go_wp2
          go_roundg (l.length - (k + 1))
          case measure => omega
          case rel => exact ⟨k + 1, by omega, by omega, by go_num, (show Aside _ from BW.out.trans HG1.out), (show Aside _ from Hy.out)⟩
        · have hz' : (n != 0) = true := by simpa using hz
          have Hz := Lib.hid hz
          have Hn : RowKit.Hid (¬ PR) := HN.out (fun h => Hz.out (HNN.out.2 h))
          clear hz
          go_wp2
          go_ret2
          exact RetIff2.no _ n Hz.out Hn.out ((HG0.out.trans (HB1.out.trans BW.out)).trans HG1.out)
      have hltz : ¬ (k : Int) < (l.length : Int) := by omega
      have HALL2 := Lib.hid (fun i h => M.out i h (by omega))
      have HB2 := Lib.hid (HB1.out.trans BW.out)
      have fn2 := newer_cell HB2.out 2 _ rfl
      obtain ⟨wr2, rfl⟩ : ∃ wr2 : World, wr2 = wr := ⟨_, rfl⟩
      clear M BW
      go_wp2
      rw [rounds_succ]
      go_wp2
      go_loopg [33] l.length (fun gg s33 wr => ∃ k : Nat, k ≤ l.length ∧ l.length - k ≤ gg ∧ s33 = .int .i64 k ∧ Aside (Grew wr2 wr) ∧ Aside (∀ i (h : i < l.length), i < k → sortI l[i].kids = kidsOf l l[i].id))
      case atStart => exact ⟨0, by omega, by omega, rfl, (show Aside _ from Grew.refl _), (show Aside _ from fun i h h2 => by omega)⟩
      case round =>
        obtain ⟨k, hk, hgk, rfl, BW, M⟩ := hrel
        have b0 := tree_cell (HB2.out.trans BW.out) 0 _ rfl
        have b1 := tree_cell (HB2.out.trans BW.out) 1 _ rfl
        by_cases hlt : k < l.length
        · have hltz : (k : Int) < (l.length : Int) := by omega
          have HN : RowKit.Hid (¬ (sortI l[k].kids = kidsOf l l[k].id) → ¬ PR) := fun h h2 => h ((HD.out.1 h2).2.2.1 k hlt)
          have HY : RowKit.Hid ((sortI l[k].kids = kidsOf l l[k].id) → ∀ i (h : i < l.length), i < k + 1 → sortI l[i].kids = kidsOf l l[i].id) := fun h i hi h2 => by
            by_cases e : i = k
            · subst e; exact h
            · exact M.out i hi (by omega)
          have KK := Lib.hid (K3.out k hlt _ (HG0.out.trans (HB2.out.trans BW.out)))
          generalize (sortI l[k].kids = kidsOf l l[k].id) = PK at HN HY KK
          go_wp2_with fail
          refine KK.out.mono ?_
          rintro e w1 ⟨n, rfl, hnn, g1⟩
          have HNN := Lib.hid hnn
          have HG1 := Lib.hid g1
          clear hnn g1
          dsimp only
          by_cases hz : n = 0
          · subst hz
            have Hy := Lib.hid (HY.out (HNN.out.1 rfl))
            go_wp2
            go_roundg (l.length - (k + 1))
            case measure => omega
            case rel => exact ⟨k + 1, by omega, by omega, by go_num, (show Aside _ from BW.out.trans HG1.out), (show Aside _ from Hy.out)⟩
          · have hz' : (n != 0) = true := by simpa using hz
            have Hz := Lib.hid hz
            have Hn : RowKit.Hid (¬ PR) := HN.out (fun h => Hz.out (HNN.out.2 h))
            clear hz
            go_wp2
            go_ret2
            exact RetIff2.no _ n Hz.out Hn.out ((HG0.out.trans (HB2.out.trans BW.out)).trans HG1.out)
        have hltz : ¬ (k : Int) < (l.length : Int) := by omega
        have HALL3 := Lib.hid (fun i h => M.out i h (by omega))
        have HB3 := Lib.hid (HB2.out.trans BW.out)
        have fn3 := newer_cell HB3.out 3 _ rfl
        obtain ⟨wr3, rfl⟩ : ∃ wr3 : World, wr3 = wr := ⟨_, rfl⟩
        clear M BW
        go_wp2
        rw [rounds_succ]
        have kj := KJ.out wr3 (HG0.out.trans HB3.out)
        have K4 := Lib.hid (KD.out HALL2.out)
        by_cases hS : sortI rs = kidsOf l 0
        case neg =>
          rw [decide_eq_false hS] at kj
          have KJ2 := Lib.hid kj
          have Hn : RowKit.Hid (¬ PR) := fun h => hS (HD.out.1 h).2.2.2.1
          clear kj hS
          go_wp2_with fail
          refine KJ2.out.mono ?_
          rintro e w1 ⟨rfl, g1⟩
          dsimp only
          go_wp2
          go_ret2
          exact RetIff2.no _ 10 (by decide) Hn.out ((HG0.out.trans HB3.out).trans g1)
        rw [decide_eq_true hS] at kj
        have KJ2 := Lib.hid kj
        have HSS := Lib.hid hS
        clear kj hS
        go_wp2_with fail
        refine KJ2.out.mono ?_
        rintro e w4 ⟨rfl, g4⟩
        have HB4 := Lib.hid (HB3.out.trans g4)
        have q0 := tree_cell HB4.out 0 _ rfl
        have q1 := tree_cell HB4.out 1 _ rfl
        clear g4
        dsimp only
        go_wp2
        go_loopg [33] l.length (fun gg s33 wr => ∃ k : Nat, k ≤ l.length ∧ l.length - k ≤ gg ∧ s33 = .int .i64 k ∧ Aside (Grew w4 wr) ∧ Aside (∀ i (h : i < l.length), i < k → BrDeep l l[i]))
        case atStart => exact ⟨0, by omega, by omega, rfl, (show Aside _ from Grew.refl _), (show Aside _ from fun i h h2 => by omega)⟩
        case round =>
          obtain ⟨k, hk, hgk, rfl, BW, M⟩ := hrel
          have b0 := tree_cell (HB4.out.trans BW.out) 0 _ rfl
          have b1 := tree_cell (HB4.out.trans BW.out) 1 _ rfl
          by_cases hlt : k < l.length
          · have hltz : (k : Int) < (l.length : Int) := by omega
            have HN : RowKit.Hid (¬ (BrDeep l l[k]) → ¬ PR) := fun h h2 => h ((HD.out.1 h2).2.2.2.2 k hlt)
            have HY : RowKit.Hid ((BrDeep l l[k]) → ∀ i (h : i < l.length), i < k + 1 → BrDeep l l[i]) := fun h i hi h2 => by
              by_cases e : i = k
              · subst e; exact h
              · exact M.out i hi (by omega)
            have KK := Lib.hid (K4.out k hlt _ (HG0.out.trans (HB4.out.trans BW.out)))
            generalize (BrDeep l l[k]) = PK at HN HY KK
            go_wp2_with fail
            refine KK.out.mono ?_
            rintro e w1 ⟨n, rfl, hnn, g1⟩
            have HNN := Lib.hid hnn
            have HG1 := Lib.hid g1
            clear hnn g1
            dsimp only
            by_cases hz : n = 0
            · subst hz
              have Hy := Lib.hid (HY.out (HNN.out.1 rfl))
              go_wp2
              go_roundg (l.length - (k + 1))
              case measure => omega
              case rel => exact ⟨k + 1, by omega, by omega, by go_num, (show Aside _ from BW.out.trans HG1.out), (show Aside _ from Hy.out)⟩
            · have hz' : (n != 0) = true := by simpa using hz
              have Hz := Lib.hid hz
              have Hn : RowKit.Hid (¬ PR) := HN.out (fun h => Hz.out (HNN.out.2 h))
              clear hz
              go_wp2
              go_ret2
              exact RetIff2.no _ n Hz.out Hn.out ((HG0.out.trans (HB4.out.trans BW.out)).trans HG1.out)
          have hltz : ¬ (k : Int) < (l.length : Int) := by omega
          have HALL4 := Lib.hid (fun i h => M.out i h (by omega))
          have Hy : RowKit.Hid PR := HD.out.2 ⟨HALL1.out, HALL2.out, HALL3.out, HSS.out, HALL4.out⟩
          have HWE := Lib.hid (HG0.out.trans (HB4.out.trans BW.out))
          go_wp2
          rw [rounds_succ]
          go_wp2
          go_ret2
          exact RetIff2.yes _ Hy.out HWE.out
end Go.Proofs.YtjaknioojpgkiaaGreatDoor

/- tree: right, Find, walked. The conditions: the library's own variables hold what they must; the lists are short. -/
namespace Go.Proofs.YtjaknioojpgkiaaGreatDoor
open Go.RowKit

/-- A call that answers whether P holds. -/
def RetB (P : Prop) (w : World) (e : Ending) (w' : World) : Prop := ∃ b : Bool, e = .returned (.bool b) ∧ (b = true ↔ P) ∧ Grew w w'
theorem tRight (rs : List Int) (l : List Br) (rv bv : Value) (w : World) (hE : Env w) (hr : SlI w rv rs) (hv : SlBr w bv l) (hf : FewBr l) (hrl : rs.length ≤ 1000000) :
    Calls Tryz.prog 201 #[.agg #[rv, bv]] w (RetB (RightT ⟨rs, l⟩) w) := by
  have K := Lib.hid (fun W (hW : Grew w W) => tCheck rs l rv bv W (hE.mono hW) (hr.mono hW) (hv.mono hW) hf hrl)
  clear hE hr hv hf hrl
  go_enter Tryz.func201, Tryz.ntmps201
  go_wp2_with fail
  refine (K.out _ ((Grew.refl w).alloc _)).mono ?_
  rintro e w1 ⟨i, n, rfl, hn, g⟩
  have HN := Lib.hid hn
  have HG := Lib.hid (((Grew.refl w).alloc _).trans g)
  clear hn g
  dsimp only
  cases hz : (n == 0)
  · go_wp2
    go_ret
    exact ⟨false, rfl, ⟨(fun h => by cases h), (fun h => by rw [HN.out.2 h] at hz; cases hz)⟩, HG.out⟩
  · go_wp2
    go_ret
    exact ⟨true, rfl, ⟨fun _ => HN.out.1 (by simpa using hz), fun _ => rfl⟩, HG.out⟩
def br0 : Br := ⟨0, 0, 0, ⟨#[]⟩, ⟨#[]⟩, []⟩
/-- How Find of a tree ends. -/
def TFindEnd (o : Option Br) (w : World) (e : Ending) (w' : World) : Prop :=
  e = .returned (.tuple #[.agg #[.int .i64 (o.getD br0).id, .int .i64 (o.getD br0).parent, .int .i64 (o.getD br0).level, .string (o.getD br0).title, .string (o.getD br0).mark], .bool o.isSome]) ∧ Grew w w'
set_option maxHeartbeats 2000000 in
theorem tFind (l : List Br) (id : Int) (rv bv : Value) (w : World) (hv : SlBr w bv l) : Calls Tryz.prog 84 #[.agg #[rv, bv], .int .i64 id] w (TFindEnd (brFind l id) w) := by
  have HV := Lib.hid hv
  have kI := fun W (hW : Grew w W) => tIndex l id rv bv W (HV.out.mono hW)
  cases ho : brFind l id with
  | none =>
    rw [brIdx_none ho] at kI
    have KI := Lib.hid kI
    clear kI ho hv
    go_enter Tryz.func84, Tryz.ntmps84
    go_wp2_with fail
    refine (KI.out _ (((Grew.refl w).alloc _).alloc _)).mono ?_
    rintro e w1 ⟨rfl, g1⟩
    have hz1 : w.heap.size + 1 < w1.heap.size := Nat.lt_of_lt_of_le (by simp) g1.size
    obtain ⟨hc1, hf1⟩ := g1.cells
    have HG1 := Lib.hid g1
    clear g1
    dsimp only
    go_wp2
    refine bodyPost_ret (v := .tuple #[.agg #[.int .i64 0, .int .i64 0, .int .i64 0, .string ⟨#[]⟩, .string ⟨#[]⟩], .bool false]) (by simp [results, Tryz.results84, go_sem, hc1]) rfl ⟨rfl, ?_⟩
    repeat (with_reducible refine Grew.setCell ?_ (by simp) _)
    exact (((Grew.refl w).alloc _).alloc _).trans HG1.out
  | some p =>
    obtain ⟨k, hk, ek, rfl⟩ := brIdx_some ho
    rw [ek] at kI
    obtain ⟨A, c, rfl, hlc, hc, hr⟩ := hv.open_
    unfold maxLen at hc
    obtain ⟨bb, off, rfl, hbk, hcell⟩ := hr (by omega)
    obtain ⟨kv, -, hcl⟩ := hcell k hk
    have KI := Lib.hid kI
    have HCL := Lib.hid hcl
    have hkz : (k : Int) < (l.length : Int) := by omega
    have h0z : (0 : Int) ≤ (k : Int) := by omega
    have hneg : ¬ (k : Int) < 0 := by omega
    generalize l[k] = y at HCL
    obtain ⟨yi, yp, yl, yt, ym, yk⟩ := y
    dsimp only at HCL
    clear kI ho hv ek hcell hcl hr
    go_enter Tryz.func84, Tryz.ntmps84
    go_wp2_with fail
    refine (KI.out _ (((Grew.refl w).alloc _).alloc _)).mono ?_
    rintro e w1 ⟨rfl, g1⟩
    have hz1 : w.heap.size + 1 < w1.heap.size := Nat.lt_of_lt_of_le (by simp) g1.size
    have hy1 : w.heap.size < w1.heap.size := by omega
    have HW1 := Lib.hid ((((Grew.refl w).alloc _).alloc _).trans g1)
    obtain ⟨c0, c1, c2, c3, c4, -⟩ := HCL.out w1 HW1.out
    obtain ⟨hc1, hf1⟩ := g1.cells
    clear g1
    dsimp only
    go_wp2
    refine bodyPost_ret (v := .tuple #[.agg #[.int .i64 yi, .int .i64 yp, .int .i64 yl, .string yt, .string ym], .bool true]) (by simp [results, Tryz.results84, go_sem, hc1]) rfl ⟨rfl, ?_⟩
    repeat (with_reducible refine Grew.setCell ?_ (by simp) _)
    exact HW1.out
end Go.Proofs.YtjaknioojpgkiaaGreatDoor

/- authority: clone, own, Find, walked. No condition but the sizes that a slice can have. -/
namespace Go.Proofs.YtjaknioojpgkiaaGreatDoor
open Go.RowKit

theorem own_slice {w : World} {base : Nat} {e : TypeId} {k : Nat} {v : Value} {n : Nat} {xs : List Value} (h : w.ownsRow base e k v n xs) : ∃ A c, v = .slice A n c := by
  rcases h.2 with ⟨rfl, rfl⟩ | ⟨g, cap, cur, rfl, _⟩
  · exact ⟨_, _, rfl⟩
  · exact ⟨_, _, rfl⟩
end Go.Proofs.YtjaknioojpgkiaaGreatDoor

/- relation.Check, walked. The conditions: the library's own variables hold what they must; each authority has few names and successors. -/
namespace Go.Proofs.YtjaknioojpgkiaaGreatDoor
open Go.RowKit

theorem keep_cell {W X : World} (g : Grew W X) {p : Addr} {v : Value} (h : W.cell? p = some v) : X.cell? p = some v := (g.cell (World.block_lt_of_cell? W _ h)).trans h
end Go.Proofs.YtjaknioojpgkiaaGreatDoor

/- relation: asks, ranged, find, walked. The conditions: the library's own variables hold what they must; the lists are short. -/
namespace Go.Proofs.YtjaknioojpgkiaaGreatDoor
open Go.RowKit

theorem ret_ib {i : Int} {a b : Bool} (h : a = b) : Ending.returned (.tuple #[.int .i64 i, .bool a]) = .returned (.tuple #[.int .i64 i, .bool b]) := by rw [h]
/-- Where a sorted list passes a thing. -/
def passes {α : Type} (p : α → Bool) (l : List α) : Nat := (l.takeWhile p).length
theorem passes_eq {α : Type} (p : α → Bool) (l : List α) (i : Nat) (hi : i ≤ l.length) (h1 : ∀ t (h : t < l.length), t < i → p l[t] = true) (h2 : ∀ t (h : t < l.length), i ≤ t → p l[t] = false) : passes p l = i := by
  unfold passes
  induction l generalizing i with
  | nil => simp at hi; simp [hi]
  | cons x r ih =>
    cases i with
    | zero =>
      have := h2 0 (by simp) (by omega)
      simp only [List.getElem_cons_zero] at this
      simp [this]
    | succ i =>
      have := h1 0 (by simp) (by omega)
      simp only [List.getElem_cons_zero] at this
      rw [List.takeWhile_cons, if_pos this, List.length_cons, ih i (by simpa using hi) (fun t h ht => h1 (t + 1) (Nat.succ_lt_succ h) (by omega)) (fun t h ht => h2 (t + 1) (Nat.succ_lt_succ h) (by omega))]
/-- Whether the place is that of the thing itself. -/
def hitB {α : Type} (q : α → Bool) (l : List α) (i : Nat) : Bool := match l[i]? with
  | none => false
  | some y => q y
end Go.Proofs.YtjaknioojpgkiaaGreatDoor

/- tree.at, walked: the binary search of a unit. The condition: the units ascend, and are not too many. -/
namespace Go.Proofs.YtjaknioojpgkiaaGreatDoor
open Go.RowKit

theorem tAt1 (y : BrC) (id : Int) (w : World) : Calls Tryz.prog 242 #[y.agg, .int .i64 id] w fun e w' => e = .returned (.int .i64 (Lib.compareInt y.id id)) ∧ Grew w w' := by
  have h1 := Tryz.cmp_Compare_int y.id id
  unfold BrC.agg
  generalize Lib.compareInt y.id id = r at h1
  have H1 := Lib.hid h1
  clear h1
  go_enter Tryz.func242, Tryz.ntmps242
  go_wp2_with fail
  refine (H1.out _).mono ?_
  rintro e w1 ⟨rfl, rfl⟩
  dsimp only
  go_wp2
  go_ret
  exact ⟨rfl, (Grew.refl w).alloc _⟩
def cmpId (id : Int) (b : Br) : Int := Lib.compareInt b.id id
set_option maxHeartbeats 2000000 in
theorem searchB (l : List Br) (id : Int) (v : Value) (w : World) (hv : SlBr w v l) (hlen : l.length ≤ 1000000)
    (hm : ∀ i j (hi : i < l.length) (hj : j < l.length), i ≤ j → cmpId id l[j] < 0 → cmpId id l[i] < 0) :
    Calls Tryz.prog 241 #[v, .int .i64 id, .func (.func 242) #[] #[]] w fun e w' =>
      e = .returned (.tuple #[.int .i64 (passes (fun y => decide (cmpId id y < 0)) l), .bool (hitB (fun y => decide (cmpId id y = 0)) l (passes (fun y => decide (cmpId id y < 0)) l))]) ∧ Grew w w' := by
  obtain ⟨A, c, rfl, hlc, hcap, hr⟩ := hv.open_
  have HR := Lib.hid hr
  have HM := Lib.hid hm
  have HP := Lib.hid (passes_eq (fun y => decide (cmpId id y < 0)) l)
  clear hv hr hm hcap hlc
  generalize passes (fun y => decide (cmpId id y < 0)) l = P0 at HP ⊢
  generalize hh0 : hitB (fun y => decide (cmpId id y = 0)) l P0 = hb0
  have HH0 := Lib.hid hh0
  clear hh0
  go_enter Tryz.func241, Tryz.ntmps241
  go_wp2
  go_loopg [9, 10] l.length (fun gg s9 s10 wr => ∃ i j : Nat, i ≤ j ∧ j ≤ l.length ∧ j - i ≤ gg ∧ s9 = .int .i64 i ∧ s10 = .int .i64 j ∧ Aside (Grew w wr) ∧ Aside (∀ t (h : t < l.length), t < i → cmpId id l[t] < 0) ∧ Aside (∀ t (h : t < l.length), j ≤ t → ¬ cmpId id l[t] < 0))
  case atStart => exact ⟨0, l.length, by omega, by omega, by omega, rfl, rfl, (show Aside _ from Grew.refl _), (show Aside _ from fun t h ht => by omega), (show Aside _ from fun t h ht => by omega)⟩
  case round =>
    obtain ⟨i, j, hij, hj, hgk, rfl, rfl, BW, M1, M2⟩ := hrel
    by_cases hlt : i < j
    · have hltz : (i : Int) < (j : Int) := by omega
      have hmid : ((i : Int) + (j : Int)) / 2 = (((i + j) / 2 : Nat) : Int) := by omega
      have hk1 : i ≤ (i + j) / 2 := by omega
      have hk2 : (i + j) / 2 < j := by omega
      have hkl : (i + j) / 2 < l.length := by omega
      have hkz : (i : Int) + (j : Int) < 2 * (l.length : Int) := by omega
      have hkz2 : ((i : Int) + (j : Int)) / 2 < (l.length : Int) := by omega
      have h0z : (0 : Int) ≤ ((i : Int) + (j : Int)) / 2 := by omega
      have htn : (((i : Int) + (j : Int)) / 2).toNat = (i + j) / 2 := by omega
      obtain ⟨b, off, rfl, hb, hcell⟩ := HR.out (by omega)
      obtain ⟨kv, hkv, hcl⟩ := hcell ((i + j) / 2) hkl
      obtain ⟨c0, c1, c2, c3, c4, c5⟩ := hcl wr BW.out
      obtain ⟨Az, cz, rfl, -, -, -⟩ := hkv.open_
      have HN1 : RowKit.Hid (cmpId id l[(i + j) / 2] < 0 → ∀ t (h : t < l.length), t < (i + j) / 2 + 1 → cmpId id l[t] < 0) := fun h t ht htk => HM.out t _ ht hkl (by omega) h
      have HN2 : RowKit.Hid (¬ cmpId id l[(i + j) / 2] < 0 → ∀ t (h : t < l.length), (i + j) / 2 ≤ t → ¬ cmpId id l[t] < 0) := fun h t ht htk h3 => h (HM.out _ t hkl ht htk h3)
      have HMID := Lib.hid hmid
      clear hcell hcl hkv hmid
      unfold cmpId at HN1 HN2
      generalize l[(i + j) / 2] = y at c0 c1 c2 c3 c4 c5 HN1 HN2
      obtain ⟨yi, yp, yl, yt, ym, yk⟩ := y
      dsimp only at c0 c1 c2 c3 c4 c5 HN1 HN2
      have kC := fun W => tAt1 ⟨yi, yp, yl, yt, ym, .slice Az yk.length cz⟩ id W
      dsimp only [BrC.agg] at kC
      generalize Lib.compareInt yi id = r at kC HN1 HN2
      have KC := Lib.hid kC
      clear kC
      by_cases hneg : r < 0
      · have Hn := Lib.hid (HN1.out hneg)
        go_wp2_with fail
        refine (KC.out _).mono ?_
        rintro e w1 ⟨rfl, g1⟩
        have HG1 := Lib.hid g1
        clear g1
        dsimp only
        go_wp2
        rw [HMID.out]
        go_roundg (j - ((i + j) / 2 + 1))
        case measure => omega
        case rel => exact ⟨(i + j) / 2 + 1, j, by omega, by omega, by omega, by go_num, rfl, (show Aside _ from BW.out.trans HG1.out), (show Aside _ from Hn.out), M2⟩
      · have hneg' : decide (r < 0) = false := by simpa using hneg
        have Hn := Lib.hid (HN2.out hneg)
        go_wp2_with fail
        refine (KC.out _).mono ?_
        rintro e w1 ⟨rfl, g1⟩
        have HG1 := Lib.hid g1
        clear g1
        dsimp only
        go_wp2
        rw [HMID.out]
        go_roundg ((i + j) / 2 - i)
        case measure => omega
        case rel => exact ⟨i, (i + j) / 2, by omega, by omega, by omega, rfl, rfl, (show Aside _ from BW.out.trans HG1.out), M1, (show Aside _ from Hn.out)⟩
    · have hltz : ¬ (i : Int) < (j : Int) := by omega
      obtain rfl : i = j := by omega
      have hP := HP.out i hj (fun t h ht => by simpa using M1.out t h ht) (fun t h ht => by simpa using M2.out t h ht)
      subst hP
      by_cases hil : P0 < l.length
      · have hilz : (P0 : Int) < (l.length : Int) := by omega
        have h0z : (0 : Int) ≤ (P0 : Int) := by omega
        obtain ⟨b, off, rfl, hb, hcell⟩ := HR.out (by omega)
        obtain ⟨kv, hkv, hcl⟩ := hcell P0 hil
        obtain ⟨c0, c1, c2, c3, c4, c5⟩ := hcl wr BW.out
        obtain ⟨Az, cz, rfl, -, -, -⟩ := hkv.open_
        have hh : (cmpId id l[P0] == 0) = hb0 := by
          rw [← HH0.out]
          simp only [hitB, List.getElem?_eq_getElem hil]
          rfl
        unfold cmpId at hh
        clear hcell hcl hkv
        generalize l[P0] = y at c0 c1 c2 c3 c4 c5 hh
        obtain ⟨yi, yp, yl, yt, ym, yk⟩ := y
        dsimp only at c0 c1 c2 c3 c4 c5 hh
        have kC := fun W => tAt1 ⟨yi, yp, yl, yt, ym, .slice Az yk.length cz⟩ id W
        dsimp only [BrC.agg] at kC
        generalize Lib.compareInt yi id = r at kC hh
        have KC := Lib.hid kC
        have HHE := Lib.hid hh
        clear kC hh
        go_wp2_with fail
        refine (KC.out _).mono ?_
        rintro e w1 ⟨rfl, g1⟩
        have HG1 := Lib.hid g1
        clear g1
        dsimp only
        go_wp2
        go_ret2
        exact ⟨ret_ib HHE.out, BW.out.trans HG1.out⟩
      · have hilz : decide ((P0 : Int) < (l.length : Int)) = false := by simp; omega
        have hh : false = hb0 := by rw [← HH0.out]; simp [hitB, hil]
        have HHE := Lib.hid hh
        clear hh
        go_wp2
        go_ret2
        exact ⟨ret_ib HHE.out, BW.out⟩
theorem tAt (l : List Br) (id : Int) (rv bv : Value) (w : World) (hv : SlBr w bv l) (hlen : l.length ≤ 1000000)
    (hm : ∀ i j (hi : i < l.length) (hj : j < l.length), i ≤ j → cmpId id l[j] < 0 → cmpId id l[i] < 0) :
    Calls Tryz.prog 202 #[.agg #[rv, bv], .int .i64 id] w fun e w' =>
      e = .returned (.tuple #[.int .i64 (passes (fun y => decide (cmpId id y < 0)) l), .bool (hitB (fun y => decide (cmpId id y = 0)) l (passes (fun y => decide (cmpId id y < 0)) l))]) ∧ Grew w w' := by
  have K := Lib.hid (fun W (hW : Grew w W) => searchB l id bv W (hv.mono hW) hlen hm)
  generalize hitB (fun y => decide (cmpId id y = 0)) l (passes (fun y => decide (cmpId id y < 0)) l) = hb at K ⊢
  generalize passes (fun y => decide (cmpId id y < 0)) l = P0 at K ⊢
  clear hv hm
  go_enter Tryz.func202, Tryz.ntmps202
  go_wp2_with fail
  refine (K.out _ ((Grew.refl w).alloc _)).mono ?_
  rintro e w1 ⟨rfl, g1⟩
  dsimp only
  go_wp2
  go_ret2
  exact ⟨rfl, ((Grew.refl w).alloc _).trans g1⟩
end Go.Proofs.YtjaknioojpgkiaaGreatDoor
