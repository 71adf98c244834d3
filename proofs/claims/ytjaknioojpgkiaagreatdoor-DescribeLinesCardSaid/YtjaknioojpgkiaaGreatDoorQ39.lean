/- Lemmas on what the functions of the program and of the library compute: N4. The conditions stand at each. -/
import Derived.Test.YtjaknioojpgkiaaGreatDoorQ37
import Derived.Test.YtjaknioojpgkiaaGreatDoorQ38
import Derived.Test.YtjaknioojpgkiaaGreatDoorQ12
/- describe.Set, walked. The conditions: the library's own variables hold what they must; the lists are short. -/
namespace Go.Proofs.YtjaknioojpgkiaaGreatDoor
open Go.RowKit

theorem ins_take {α : Type} (x : α) : ∀ (n : Nat) (l : List α), n ≤ l.length → l.insertIdx n x = l.take n ++ [x] ++ l.drop n
  | 0, l, _ => by simp
  | n + 1, [], h => by simp at h
  | n + 1, a :: l, h => by simp [List.insertIdx_succ_cons, ins_take x n l (by simpa using h)]
theorem set_cellsV {vs : List Val} {i : Nat} (v : Val) {ds : List Value} (hl : ds.length = (vs.flatMap Val.cells).length) (ha : ∀ t, t < i * 4 ∨ i * 4 + 4 ≤ t → ds[t]? = (vs.flatMap Val.cells)[t]?) (hb : ∀ t, t < 4 → i * 4 + t < (vs.flatMap Val.cells).length → ds[i * 4 + t]? = v.cells[t]?) : ds = (vs.set i v).flatMap Val.cells := by
  have hfl := flatMap_len Val.cells 4 (fun _ => rfl) vs
  have hfl2 := flatMap_len Val.cells 4 (fun _ => rfl) (vs.set i v)
  rw [List.length_set] at hfl2
  apply List.ext_getElem?
  intro k
  by_cases hk : k < vs.length * 4
  · have hq : k / 4 < vs.length := by omega
    have hr : k % 4 < 4 := Nat.mod_lt _ (by omega)
    have e : k = k / 4 * 4 + k % 4 := by omega
    have h1 := flatMap_get Val.cells 4 (fun _ => rfl) (vs.set i v) (k / 4) (k % 4) (by simpa using hq) hr
    have h2 := flatMap_get Val.cells 4 (fun _ => rfl) vs (k / 4) (k % 4) hq hr
    rw [← e] at h1 h2
    rw [h1, List.getElem_set]
    by_cases hi2 : i = k / 4
    · rw [if_pos hi2]
      have := hb (k % 4) hr (by rw [hfl]; omega)
      rw [hi2, ← e] at this
      exact this
    · rw [if_neg hi2, ← h2]
      exact ha k (by omega)
  · rw [List.getElem?_eq_none (by omega), List.getElem?_eq_none (by omega)]
theorem held6 (w1 W : World) {p0 p1 p2 p3 p4 p5 : Addr} {y0 y1 y2 y3 y4 y5 : Value} (a0 : w1.cell? p0 = some y0) (a1 : w1.cell? p1 = some y1) (a2 : w1.cell? p2 = some y2) (a3 : w1.cell? p3 = some y3) (a4 : w1.cell? p4 = some y4) (a5 : w1.cell? p5 = some y5) (g : Grew w1 W) :
    W.cell? p0 = some y0 ∧ W.cell? p1 = some y1 ∧ W.cell? p2 = some y2 ∧ W.cell? p3 = some y3 ∧ W.cell? p4 = some y4 ∧ W.cell? p5 = some y5 ∧ Grew w1 W := ⟨keep_cell g a0, keep_cell g a1, keep_cell g a2, keep_cell g a3, keep_cell g a4, keep_cell g a5, g⟩
theorem or_lit (a b : Int) (W : World) : Calls Tryz.prog 55 #[.slice (some ⟨W.heap.size, 0, none⟩) 2 2] (W.alloc (.cells #[.int .i64 a, .int .i64 b] 33)) fun e w' => e = .returned (.int .i64 (orF [a, b])) ∧ Grew (W.alloc (.cells #[.int .i64 a, .int .i64 b] 33)) w' :=
  (cmpOrE_any [a, b] _ _ (err_lit W [a, b] 2 rfl (by decide))).mono fun e w' h => ⟨h.1, by rw [← h.2]; exact Grew.refl _⟩
/-- What Set returns, by the error of its first test. -/
theorem setR_is (t : Tr) (ls : List ByteArray) (vs : List Val) (v : Val) : setR t ls vs v = if orF [ofI t ls vs, valG t ls vs v] = 0 then (if 1024 < (putV v vs).length then ([], 8) else (normF t (putV v vs), 0)) else ([], orF [ofI t ls vs, valG t ls vs v]) := by
  unfold setR
  rcases ofI_two t ls vs with h | h
  · rw [if_neg (by rw [h]; decide), ← valG_E h]
    by_cases hz : valG t ls vs v = 0
    · rw [if_neg (fun k => k hz), h, hz]
      rfl
    · rw [if_pos hz, h]
      have : orF [0, valG t ls vs v] = valG t ls vs v := by simp [orF, hz]
      rw [this, if_neg hz]
  · rw [if_pos (by rw [h]; decide), h]
    have : orF [1, valG t ls vs v] = 1 := by simp [orF]
    rw [this]
    rfl
theorem or_zero2 {a b : Int} (h : orF [a, b] = 0) : a = 0 ∧ b = 0 := by
  by_cases ha : a = 0
  · subst ha
    refine ⟨rfl, ?_⟩
    by_cases hb : b = 0
    · exact hb
    · simp [orF, hb] at h
  · simp [orF, ha] at h
theorem norm_put {t : Tr} {ls : List ByteArray} {vs : List Val} {v : Val} (h : orF [ofI t ls vs, valG t ls vs v] = 0) (hl : ¬ 1024 < (putV v vs).length) : normR t ls (putV v vs) = (normF t (putV v vs), 0) := by
  obtain ⟨h1, h2⟩ := or_zero2 h
  rw [valG_E h1] at h2
  obtain ⟨hT, hR⟩ := ofI_zero.1 h1
  have hP := put_right hR (valE_good hT h2).1 (by omega)
  unfold normR
  rw [if_pos (ofI_zero.2 ⟨hT, hP⟩)]
set_option maxHeartbeats 16000000 in
set_option maxRecDepth 100000 in
theorem dSet (t : Tr) (ls : List ByteArray) (vs : List Val) (v : Val) (rv bv lv vv : Value) (w : World) (hE : Env w) (hr : SlI w rv t.roots) (hv : SlBr w bv t.brs) (hf : FewBr t.brs) (hrl : t.roots.length ≤ 1000000) (hl : SlS w lv ls) (hvv : SlV w vv vs) (hfv : vs.length ≤ 1000000) :
    Calls Tryz.prog 17 #[.agg #[rv, bv], lv, vv, v.agg] w (RetVL (setR t ls vs v) w) := by
  have kR := fun W (hW : Grew w W) => dRight t ls vs rv bv lv vv W (hE.mono hW) (hr.mono hW) (hv.mono hW) hf hrl (hl.mono hW) (hvv.mono hW) hfv
  have kV := fun W (hW : Grew w W) => dValue t ls vs v rv bv lv vv W (hE.mono hW) (hr.mono hW) (hv.mono hW) hf hrl (hl.mono hW) (hvv.mono hW)
  have KC := Lib.hid (fun W (hW : Grew w W) => cloneV vs vv W (hvv.mono hW) (by omega))
  have kN := fun uv W (hW : Grew w W) (hu : SlV W uv (putV v vs)) (hn : (putV v vs).length ≤ 1000000) => dNormal t ls (putV v vs) rv bv lv uv W (hE.mono hW) (hr.mono hW) (hv.mono hW) hf hrl (hl.mono hW) hu hn
  have kFI := fun (h : orF [ofI t ls vs, valG t ls vs v] = 0) uv W (hu : SlV W uv vs) => dFind vs (ofI_zero.1 (or_zero2 h).1).2.2.2.2 hfv v uv W hu
  have hput := fun (h : orF [ofI t ls vs, valG t ls vs v] = 0) => put_hit (ofI_zero.1 (or_zero2 h).1).2.2.2.2 v
  have HLEN := Lib.hid (fun (h : orF [ofI t ls vs, valG t ls vs v] = 0) => (ofI_zero.1 (or_zero2 h).1).2.2.1)
  have HNR := Lib.hid (fun (h : orF [ofI t ls vs, valG t ls vs v] = 0) hl => norm_put h hl)
  have hko := fun W => or_lit (ofI t ls vs) (valG t ls vs v) W
  rw [setR_is]
  generalize hRES : (if orF [ofI t ls vs, valG t ls vs v] = 0 then (if 1024 < (putV v vs).length then (([] : List Val), (8 : Int)) else (normF t (putV v vs), 0)) else ([], orF [ofI t ls vs, valG t ls vs v])) = RES
  have HRES := Lib.hid hRES
  clear hRES
  generalize orF [ofI t ls vs, valG t ls vs v] = Z at kFI hput HLEN HNR hko HRES
  generalize ofI t ls vs = N0 at kR hko
  generalize valG t ls vs v = NV at kV hko
  generalize normF t (putV v vs) = NF at HNR HRES
  generalize normR t ls (putV v vs) = NR at kN HNR
  generalize putV v vs = PV at kN hput HNR HRES
  generalize hitB (fun y => decide (orderV y v = 0)) vs (vs.filter fun y => lessV y v).length = hb at kFI hput
  generalize (vs.filter fun y => lessV y v).length = n at kFI hput
  generalize dropV v vs = DV at hput
  obtain ⟨vu, ve, vl, vt⟩ := v
  unfold Val.agg at kV kFI ⊢
  dsimp only at kV kFI ⊢
  unfold RetVL at kN
  have KR := Lib.hid kR
  have KV := Lib.hid kV
  have KN := Lib.hid kN
  have KFI := Lib.hid kFI
  have HPUT := Lib.hid hput
  have KO := Lib.hid hko
  obtain ⟨Ar0, cr0, rfl, -⟩ := hr.open_
  obtain ⟨Ab0, cb0, rfl, -⟩ := hv.open_
  clear kR kV kN kFI hput hko hE hr hv hf hrl hl hvv
  have hbx : ∀ W, Grew ((w.alloc (.cells #[.slice Ar0 t.roots.length cr0, .slice Ab0 t.brs.length cb0] 25)).alloc (.cells #[.int .i64 vu, .int .i64 ve, .string vl, .string vt] 29)) W → W.heap[w.heap.size]? = some (.cells #[.slice Ar0 t.roots.length cr0, .slice Ab0 t.brs.length cb0] 25 (0, 0)) ∧ W.heap[w.heap.size + 1]? = some (.cells #[.int .i64 vu, .int .i64 ve, .string vl, .string vt] 29 (0, 0)) := fun W g => by
    have e1 := heap_newI w (.cells #[.slice Ar0 t.roots.length cr0, .slice Ab0 t.brs.length cb0] 25)
    have e2 := heap_newI (w.alloc (.cells #[.slice Ar0 t.roots.length cr0, .slice Ab0 t.brs.length cb0] 25)) (.cells #[.int .i64 vu, .int .i64 ve, .string vl, .string vt] 29)
    rw [World.size_alloc] at e2
    exact ⟨heap_keepI (((Grew.refl _).alloc _).trans g) e1, heap_keepI g e2⟩
  have HB := Lib.hid hbx
  have GA := Lib.hid (((Grew.refl w).alloc (.cells #[.slice Ar0 t.roots.length cr0, .slice Ab0 t.brs.length cb0] 25)).alloc (.cells #[.int .i64 vu, .int .i64 ve, .string vl, .string vt] 29))
  clear hbx
  unfold RetVL
  go_enter Tryz.func17, Tryz.ntmps17
  go_wp2_with fail
  generalize (w.alloc (.cells #[.slice Ar0 t.roots.length cr0, .slice Ab0 t.brs.length cb0] 25)).alloc (.cells #[.int .i64 vu, .int .i64 ve, .string vl, .string vt] 29) = WA at GA HB ⊢
  obtain ⟨t0, t1⟩ := two_cells (HB.out _ (Grew.refl _)).1
  obtain ⟨⟨v0, v1, v2, v3⟩, -⟩ := four_cells (HB.out _ (Grew.refl _)).2
  go_cut [10] from 14 to 24 (fun s10 wx => s10 = .int .i64 Z ∧ Aside (Grew WA wx))
  case first =>
    go_region_held3 (fun W => W.cell? ⟨w.heap.size, 0, none⟩ = some (.slice Ar0 t.roots.length cr0) ∧ W.cell? ⟨w.heap.size, 1, none⟩ = some (.slice Ab0 t.brs.length cb0) ∧ W.cell? ⟨w.heap.size + 1, 0, none⟩ = some (.int .i64 vu) ∧ W.cell? ⟨w.heap.size + 1, 1, none⟩ = some (.int .i64 ve) ∧ W.cell? ⟨w.heap.size + 1, 2, none⟩ = some (.string vl) ∧ W.cell? ⟨w.heap.size + 1, 3, none⟩ = some (.string vt) ∧ Grew WA W) (refine held6 WA _ t0 t1 v0 v1 v2 v3 (by repeat (with_reducible first | exact Grew.refl _ | exact GQ3.out | exact GQ2.out | exact GQ1.out | refine Grew.drew ?_ | refine Grew.alloc ?_ _))) (first | (go_at_call 56; refine (KR.out _ (GA.out.trans (by repeat (with_reducible first | exact Grew.refl _ | refine Grew.drew ?_ | refine Grew.alloc ?_ _)))).mono ?_; rintro e wq ⟨rfl, gq⟩; have GQ1 := Lib.hid (show Grew WA wq from Grew.trans (by repeat (with_reducible first | exact Grew.refl _ | refine Grew.drew ?_ | refine Grew.alloc ?_ _)) gq); clear gq) | (go_at_call 57; refine (KV.out _ (GA.out.trans (GQ1.out.trans (by repeat (with_reducible first | exact Grew.refl _ | refine Grew.drew ?_ | refine Grew.alloc ?_ _))))).mono ?_; rintro e w5 ⟨rfl, gq⟩; have GQ2 := Lib.hid (show Grew WA w5 from GQ1.out.trans (Grew.trans (by repeat (with_reducible first | exact Grew.refl _ | refine Grew.drew ?_ | refine Grew.alloc ?_ _)) gq)); clear gq) | (go_at_call 55; refine (KO.out _).mono ?_; rintro e w6 ⟨rfl, gq⟩; have GQ3 := Lib.hid (show Grew WA w6 from GQ2.out.trans (Grew.trans (by repeat (with_reducible first | exact Grew.refl _ | refine Grew.drew ?_ | refine Grew.alloc ?_ _)) gq)); clear gq))
    all_goals go_wp2_with fail
    all_goals go_meet
    all_goals exact ⟨rfl, (show Aside _ from GQ3.out)⟩
  case rest =>
    obtain ⟨rfl, GC⟩ := hcut
    have HGC := Lib.hid (GA.out.trans GC.out)
    clear t0 t1 v0 v1 v2 v3 KR KV KO
    by_cases hz : Z = 0
    case neg =>
      have hzb : (Z != 0) = true := by simpa using hz
      obtain rfl : RES = ([], Z) := by have := HRES.out; rw [if_neg hz] at this; exact this.symm
      clear HRES KN KFI HPUT HLEN HNR KC hz
      go_wp2
      go_ret2
      exact ⟨_, rfl, World.ownsRow_nil _ _ _ _, HGC.out⟩
    case pos =>
      subst hz
      have hres := HRES.out
      rw [if_pos rfl] at hres
      have HRS := Lib.hid hres
      have hlen : vs.length ≤ 1024 := HLEN.out rfl
      have KF2 := Lib.hid (KFI.out rfl)
      have HP2 := Lib.hid (HPUT.out rfl)
      have HN2 := Lib.hid (HNR.out rfl)
      clear hres HRES KFI HPUT HLEN HNR
      go_wp2_with fail
      refine (KC.out _ HGC.out).mono ?_
      rintro e w5 ⟨v5, rfl, ho5, g5⟩
      have HO5 := Lib.hid ho5
      have G5 := Lib.hid (GC.out.trans g5)
      have HGW := Lib.hid g5
      have HBASE := Lib.hid HGC.out.size
      clear ho5 g5 KC
      obtain ⟨A5, c5, rfl⟩ := own_slice HO5.out
      obtain ⟨⟨v0, v1, v2, v3⟩, -⟩ := four_cells (HB.out _ G5.out).2
      dsimp only
      go_wp2_with fail
      refine (KF2.out _ _ (Rd.of_own HO5.out)).mono ?_
      rintro e w6 ⟨rfl, g6⟩
      replace HO5 := Lib.hid (own_later HO5.out g6)
      replace G5 := Lib.hid (G5.out.trans g6)
      replace HGW := Lib.hid (HGW.out.trans g6)
      clear g6 KF2 v0 v1 v2 v3
      obtain ⟨⟨v0, v1, v2, v3⟩, -⟩ := four_cells (HB.out _ G5.out).2
      dsimp only
      rcases HP2.out with ⟨hh, hlt, hset, -, -⟩ | ⟨hh, hins, hle, -⟩
      · subst hh
        have hpv : PV.length = vs.length := by rw [← hset, List.length_set]
        have hnt : ¬ 1024 < PV.length := by omega
        obtain rfl : NR = (NF, 0) := HN2.out hnt
        obtain rfl : RES = (NF, 0) := by have := HRS.out; rw [if_neg hnt] at this; exact this.symm
        obtain ⟨g, cap, hve, hbg, hglt, hcap⟩ := own_form HO5.out (by omega)
        injection hve with e1 _ e2
        subst e1 e2
        obtain ⟨u0, _, hu0⟩ := own_cell HO5.out (n * 4 + 0) (by omega)
        have hf0 := HO5.out.frozenAt (n * 4 + 0)
        obtain ⟨u1, _, hu1⟩ := own_cell HO5.out (n * 4 + 1) (by omega)
        have hf1 := HO5.out.frozenAt (n * 4 + 1)
        obtain ⟨u2, _, hu2⟩ := own_cell HO5.out (n * 4 + 2) (by omega)
        have hf2 := HO5.out.frozenAt (n * 4 + 2)
        obtain ⟨u3, _, hu3⟩ := own_cell HO5.out (n * 4 + 3) (by omega)
        have hf3 := HO5.out.frozenAt (n * 4 + 3)
        simp only [Nat.add_zero] at hu0 hf0
        obtain ⟨ds1, hD1, hG1, hL1, hA1, hB1⟩ := own_setCells [.int .i64 vu, .int .i64 ve, .string vl, .string vt] (n * 4) w6 _ HO5.out
        have hds := set_cellsV ⟨vu, ve, vl, vt⟩ hL1 (fun k hk => hA1 k (by simpa using hk)) (fun k hk hk2 => hB1 k (by simpa using hk) hk2)
        rw [hset] at hds
        subst hds
        simp only [World.setCells, Nat.add_assoc] at hD1 hG1
        have HSV := Lib.hid (show SlV _ _ PV from Rd.of_own hD1)
        have h6 := GA.out.trans G5.out
        have HGN := Lib.hid (show Grew w _ from Below.grown h6 hG1 h6.size (fun k e => by injection e; have := HBASE.out; omega))
        have hnz : (0 : Int) ≤ (n : Int) := by omega
        have hnlt : (n : Int) < (vs.length : Int) := by omega
        have hbig : ¬ (1024 : Int) < (vs.length : Int) := by omega
        have hwb : w.heap.size ≠ g := by have h1 := (Array.getElem?_eq_some_iff.1 (HB.out _ GC.out).1).1; omega
        obtain ⟨t0, t1⟩ := two_cells (HB.out _ G5.out).1
        replace t0 := hG1.cell t0 (by simp [hwb])
        replace t1 := hG1.cell t1 (by simp [hwb])
        clear hD1 hG1 hL1 hA1 hB1 hset HP2 HN2 HRS h6 HO5 hwb
        go_wp2_with fail
        refine (KN.out _ _ HGN.out HSV.out (by omega)).mono ?_
        rintro e w8 ⟨v8, rfl, ho8, g8⟩
        obtain ⟨A8, c8, rfl⟩ := own_slice ho8
        have HO8 := Lib.hid (own_base ho8 HGN.out.size)
        have HG8 := Lib.hid (HGN.out.trans g8)
        clear ho8 g8 KN
        dsimp only
        go_wp2
        go_ret2
        exact ⟨_, rfl, HO8.out, HG8.out⟩
      · subst hh
        rw [ins_take _ _ _ hle] at hins
        have hpv : PV.length = vs.length + 1 := by rw [← hins]; simp; omega
        have hnz : (0 : Int) ≤ (n : Int) := by omega
        have hnle : (n : Int) ≤ (vs.length : Int) := by omega
        have hno : some w6.heap.size ≠ (Value.slice A5 vs.length c5).ownBlock := fun e => by have := (HO5.out.lt _ e.symm).2; omega
        have HINS := Lib.hid (insertV wc vs ⟨vu, ve, vl, vt⟩ n w6.heap.size _ (w6.alloc (.cells #[.int .i64 vu, .int .i64 ve, .string vl, .string vt] 29)) (own_later HO5.out ((Grew.refl w6).alloc _)) (HGW.out.alloc _) hle (by omega) (heap_newI w6 (.cells #[.int .i64 vu, .int .i64 ve, .string vl, .string vt] 29)) hno)
        rw [hins] at HINS
        have h6 := (GA.out.trans G5.out).alloc (.cells #[.int .i64 vu, .int .i64 ve, .string vl, .string vt] 29)
        have H6 := Lib.hid h6
        have HW6 := Lib.hid (show ∀ b, (Value.slice A5 vs.length c5).ownBlock = some b → wc.heap.size ≤ b from fun b e => (HO5.out.lt _ e).1)
        clear h6 hno hins HO5
        go_wp2_with fail
        refine HINS.out.mono ?_
        rintro e w7 ⟨v7, rfl, ho7, hg7, -⟩
        have hgn := Below.grown H6.out hg7 H6.out.size (fun k e => Nat.le_trans HBASE.out (HW6.out k e))
        obtain ⟨A7, c7, rfl⟩ := own_slice ho7
        have HSV := Lib.hid (show SlV w7 (.slice A7 (vs.length + 1) c7) PV from Rd.of_own ho7)
        have HGN := Lib.hid (show Grew w w7 from hgn)
        have hbw : some w.heap.size ≠ (Value.slice A5 vs.length c5).ownBlock := fun e => by have h1 := (Array.getElem?_eq_some_iff.1 (HB.out _ GC.out).1).1; have := HW6.out _ e.symm; omega
        obtain ⟨t0, t1⟩ := two_cells (HB.out _ (G5.out.alloc (.cells #[.int .i64 vu, .int .i64 ve, .string vl, .string vt] 29))).1
        replace t0 := hg7.cell t0 hbw
        replace t1 := hg7.cell t1 hbw
        clear ho7 hg7 hgn hbw HINS v0 v1 v2 v3
        dsimp only
        by_cases hbig : 1024 < PV.length
        · have hbz : (1024 : Int) < ((vs.length + 1 : Nat) : Int) := by omega
          obtain rfl : RES = ([], 8) := by have := HRS.out; rw [if_pos hbig] at this; exact this.symm
          clear HRS HN2 KN HP2
          go_wp2
          go_ret2
          exact ⟨_, rfl, World.ownsRow_nil _ _ _ _, HGN.out⟩
        · have hbz : ¬ (1024 : Int) < ((vs.length + 1 : Nat) : Int) := by omega
          obtain rfl : NR = (NF, 0) := HN2.out hbig
          obtain rfl : RES = (NF, 0) := by have := HRS.out; rw [if_neg hbig] at this; exact this.symm
          clear HRS HN2 HP2
          go_wp2_with fail
          refine (KN.out _ _ HGN.out HSV.out (by omega)).mono ?_
          rintro e w8 ⟨v8, rfl, ho8, g8⟩
          obtain ⟨A8, c8, rfl⟩ := own_slice ho8
          have HO8 := Lib.hid (own_base ho8 HGN.out.size)
          have HG8 := Lib.hid (HGN.out.trans g8)
          clear ho8 g8 KN
          dsimp only
          go_wp2
          go_ret2
          exact ⟨_, rfl, HO8.out, HG8.out⟩
end Go.Proofs.YtjaknioojpgkiaaGreatDoor
