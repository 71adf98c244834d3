/- The law RearrangeBuilds, walked, its awake given. The condition: the library's own variables hold what they must. -/
import Derived.Test.YtafncfomiolmgaaGreatDoorQ27
import Derived.Test.YtafncfomiolmgaaGreatDoorQ30
import Derived.Test.YtafncfomiolmgaaGreatDoorQ12
import Derived.Test.YtafncfomiolmgaaGreatDoorQ22
namespace Go.Proofs.YtafncfomiolmgaaGreatDoor
open Go.RowKit

/-- A row whose first value is no slice does not lie in a box of slices; so it stays where the box is written. -/
theorem rd_setS {W : World} {X j k : Nat} {ty : TypeId} {v x c0 c1 : Value} {cs : List Value} (hX : W.heap[X]? = some (.cells #[c0, c1] ty (0, 0))) (h0 : ∃ A n c, c0 = .slice A n c) (h1 : ∃ A n c, c1 = .slice A n c) (h : Rd W k v cs) (hk : 0 < k) (hi : ∀ c, cs[0]? = some c → ∀ A n m, c ≠ .slice A n m) : Rd (W.setCell ⟨X, j, none⟩ x) k v cs := by
  obtain ⟨A0, n0, m0, rfl⟩ := h0
  obtain ⟨A1, n1, m1, rfl⟩ := h1
  obtain ⟨A, n, c, rfl, hl, hn, hc, h0⟩ := h
  refine ⟨A, n, c, rfl, hl, hn, hc, fun hpos => ?_⟩
  obtain ⟨b, off, rfl, hb, hcell⟩ := h0 hpos
  have hne : b ≠ X := by
    intro e
    subst e
    have hlen : 0 < cs.length := by
      rw [hl]
      exact Nat.mul_pos hpos hk
    have h1 := hcell 0 cs[0] (by rw [List.getElem?_eq_getElem hlen])
    have h2 := hi cs[0] (by rw [List.getElem?_eq_getElem hlen])
    simp [World.cell?, hX] at h1
    match off, h1 with
    | 0, h1 => simp at h1; exact h2 _ _ _ h1.symm
    | 1, h1 => simp at h1; exact h2 _ _ _ h1.symm
    | n + 2, h1 => simp at h1
  refine ⟨b, off, rfl, by simpa using hb, fun j u hu => ?_⟩
  rw [World.cell?_setCell_other _ _ _ _ (adr_ne hne.symm)]
  exact hcell j u hu
theorem first_int (l : List Int) : ∀ c, (l.flatMap oneI)[0]? = some c → ∀ A n m, c ≠ .slice A n m := fun c hc => by
  cases l with
  | nil => cases hc
  | cons a r =>
    have : some (Value.int .i64 a) = some c := hc
    injection this with this
    rw [← this]
    intro A n m e
    cases e
theorem first_br (cs : List BrC) : ∀ c, (cs.flatMap BrC.cells)[0]? = some c → ∀ A n m, c ≠ .slice A n m := fun c hc => by
  cases cs with
  | nil => cases hc
  | cons a r =>
    have : some (Value.int .i64 a.id) = some c := hc
    injection this with this
    rw [← this]
    intro A n m e
    cases e
theorem sl_setS {W : World} {X j : Nat} {ty : TypeId} {v x c0 c1 : Value} {l : List Int} (hX : W.heap[X]? = some (.cells #[c0, c1] ty (0, 0))) (h0 : ∃ A n c, c0 = .slice A n c) (h1 : ∃ A n c, c1 = .slice A n c) (h : SlI W v l) : SlI (W.setCell ⟨X, j, none⟩ x) v l := rd_setS hX h0 h1 h (by omega) (first_int l)
theorem TrOk.setS {W : World} {X j : Nat} {ty : TypeId} {rv bv x c0 c1 : Value} {t : Tr} (hX : W.heap[X]? = some (.cells #[c0, c1] ty (0, 0))) (h0 : ∃ A n c, c0 = .slice A n c) (h1 : ∃ A n c, c1 = .slice A n c) (h : TrOk W rv bv t) : TrOk (W.setCell ⟨X, j, none⟩ x) rv bv t := by
  obtain ⟨k1, cs, k2, k3, k4⟩ := h
  exact ⟨sl_setS hX h0 h1 k1, cs, rd_setS hX h0 h1 k2 (by omega) (first_br cs), k3, fun i hi hi' => ⟨(k4 i hi hi').1, sl_setS hX h0 h1 (k4 i hi hi').2⟩⟩
theorem tr_slices {W : World} {rv bv : Value} {t : Tr} (h : TrOk W rv bv t) : (∃ A n c, rv = .slice A n c) ∧ ∃ A n c, bv = .slice A n c := by
  obtain ⟨A, c, e, -⟩ := SlI.open_ h.1
  obtain ⟨A', c', e', -⟩ := SlBr.open_ h.2
  exact ⟨⟨A, _, c, e⟩, A', _, c', e'⟩
/-- The tree that is being built lies in block B. -/
structure BuildAt (WT : World) (t : Tr) (all : List Int) (va : Value) (B k : Nat) (ru bu : Value) (wr : World) : Prop where
  box : wr.heap[B]? = some (.cells #[ru, bu] 35 (0, 0))
  tree : TrOk wr ru bu (partT t (all.take k))
  list : SlI wr va all
  grew : Grew WT wr
  lo : WT.heap.size ≤ B
theorem BuildAt.step {WT wr w8 : World} {t : Tr} {all : List Int} {va ru bu r8 b8 : Value} {B k : Nat} (h : BuildAt WT t all va B k ru bu wr) (g : Grew wr w8) (ht : TrOk w8 r8 b8 (partT t (all.take (k + 1)))) : BuildAt WT t all va B (k + 1) r8 b8 ((w8.setCell ⟨B, 0, none⟩ r8).setCell ⟨B, 1, none⟩ b8) := by
  have hb := heap_grew g h.box
  obtain ⟨s0, s1⟩ := tr_slices h.tree
  obtain ⟨q0, q1⟩ := tr_slices ht
  have hb1 := heap_setCell_same w8 B 0 #[ru, bu] 35 r8 hb
  have hb2 : (w8.setCell ⟨B, 0, none⟩ r8).heap[B]? = some (.cells #[r8, bu] 35 (0, 0)) := by simpa using hb1
  have hb3 := heap_setCell_same (w8.setCell ⟨B, 0, none⟩ r8) B 1 #[r8, bu] 35 b8 hb2
  exact ⟨by simpa using hb3, (ht.setS hb s0 s1).setS hb2 q0 s1, sl_setS hb2 q0 s1 (sl_setS hb s0 s1 (h.list.mono g)), ((h.grew.trans g).setCell h.lo _).setCell h.lo _, h.lo⟩
theorem belowR_top (t : Tr) : (belowR t 0).2 = 0 → RightT t ∧ (belowR t 0).1 = belowT t 0 := by
  by_cases hT : RightT t
  · rw [belowR_there hT (.inl rfl)]
    exact fun _ => ⟨hT, rfl⟩
  · unfold belowR
    rw [if_neg hT]
    exact fun h => absurd h (by decide)
set_option maxHeartbeats 16000000 in
set_option maxRecDepth 100000 in
theorem builds_of (t : Tr) (rv bv : Value) (w : World) (hE : Env w) (hr : SlI w rv t.roots) (hb : SlBr w bv t.brs) (hA : ∀ W, Grew w W → Calls Tryz.prog 11 #[] W fun e w' => e = .returned (.bool true) ∧ Grew W w') : Calls Tryz.prog 10 #[.agg #[rv, bv]] w fun e w' => e = .returned (.bool true) ∧ Grew w w' := by
  have KA := Lib.hid hA
  have KW := Lib.hid (fun W (hW : Grew w W) => few19_m t.roots t.brs rv bv W (hr.mono hW) (hb.mono hW))
  have KC := Lib.hid (fun W (hW : Grew w W) (hf : FewTM t.roots t.brs) => cpTr t rv bv W (hr.mono hW) (hb.mono hW) hf.br hf.rs)
  have kB := fun W rx bx (hW : Grew w W) (ht : TrOk W rx bx t) (hf : FewTM t.roots t.brs) => (tBelowX t.roots t.brs 0 rx bx W (hE.mono hW) ht.1 ht.2 hf.br hf.rs).mono fun _ _ h => h.is_
  have KF := Lib.hid (fun W id (hW : Grew w W) => tFind t.brs id rv bv W (hb.mono hW))
  have KP := Lib.hid (fun (x : Tr) (p : Opn) W rx bx (hW : Grew w W) (ht : TrOk W rx bx x) (hx : RightT x) (hk : (Lit.int .i64 p.kind).wf = true) => rApply x p rx bx W (hE.mono hW) ht.1 ht.2 (right_few hx).1 (right_few hx).2 hk)
  have HTT := Lib.hid (fun W (hW : Grew w W) => (⟨hr.mono hW, hb.mono hW⟩ : TrOk W rv bv t))
  have hRB := belowR_top t
  rw [show belowR ⟨t.roots, t.brs⟩ 0 = belowR t 0 from rfl] at kB
  generalize belowR t 0 = RB at kB hRB
  obtain ⟨all, n⟩ := RB
  dsimp only at hRB
  have HRB := Lib.hid hRB
  have KB := Lib.hid kB
  obtain ⟨Ar, cr, rfl, -⟩ := hr.open_
  obtain ⟨Ab, cb, rfl, -⟩ := hb.open_
  have GT := Lib.hid ((Grew.refl w).alloc (.cells [.slice Ar t.roots.length cr, .slice Ab t.brs.length cb].toArray 35))
  have HB := Lib.hid (fun W (g : Grew (w.alloc (.cells [.slice Ar t.roots.length cr, .slice Ab t.brs.length cb].toArray 35)) W) => (⟨new_cell g 0 _ rfl, new_cell g 1 _ rfl⟩ : W.cell? ⟨w.heap.size, 0, none⟩ = some (.slice Ar t.roots.length cr) ∧ W.cell? ⟨w.heap.size, 1, none⟩ = some (.slice Ab t.brs.length cb)))
  clear kB hRB hr hb hA hE
  go_enter Tryz.func10, Tryz.ntmps10
  go_wp2_with fail
  generalize w.alloc (.cells [.slice Ar t.roots.length cr, .slice Ab t.brs.length cb].toArray 35) = WT at GT HB ⊢
  refine (KA.out _ GT.out).mono ?_
  rintro e wa ⟨rfl, ga⟩
  have HGa := Lib.hid ga
  obtain ⟨r0, b0⟩ := HB.out wa ga
  clear ga
  dsimp only
  go_wp2_with fail
  refine (KW.out _ (GT.out.trans HGa.out)).mono ?_
  rintro e wb ⟨q, rfl, hq, gb⟩
  have HGb := Lib.hid (HGa.out.trans gb)
  have HQ := Lib.hid hq
  clear hq gb HGa r0 b0
  dsimp only
  cases q
  · clear HQ
    go_wp2_with fail
    refine (KA.out _ (GT.out.trans HGb.out)).mono ?_
    rintro e wz ⟨rfl, g3⟩
    have HG3 := Lib.hid (GT.out.trans (HGb.out.trans g3))
    clear g3
    dsimp only
    go_wp2
    go_ret
    exact ⟨rfl, HG3.out⟩
  have HF := Lib.hid (HQ.out rfl)
  obtain ⟨r0, b0⟩ := HB.out wb HGb.out
  clear HQ KA KW
  go_wp2_with fail
  refine (KC.out _ (GT.out.trans HGb.out) HF.out).mono ?_
  rintro e w3 ⟨rv3, bv3, rfl, ht3, g3⟩
  have HG3 := Lib.hid (HGb.out.trans g3)
  have HT3 := Lib.hid ht3
  obtain ⟨A3, k3, rfl, -⟩ := SlI.open_ ht3.1
  obtain ⟨B3, l3, rfl, -⟩ := SlBr.open_ ht3.2
  clear ht3 g3 r0 b0 HGb
  dsimp only
  go_wp2_with fail
  refine (KB.out _ _ _ (GT.out.trans HG3.out) HT3.out HF.out).mono ?_
  rintro e w4 ⟨va, rfl, hva, g4⟩
  have HG4 := Lib.hid (HG3.out.trans g4)
  have HVA := Lib.hid hva
  clear g4 hva HT3 HG3 KB KC
  dsimp only
  by_cases hn : n = 0
  rotate_left
  · have hnb : (n != 0) = true := by simpa using hn
    clear HVA HRB
    go_wp2
    go_ret
    exact ⟨rfl, GT.out.trans HG4.out⟩
  subst hn
  obtain ⟨hT, hall⟩ := HRB.out rfl
  have HRT := Lib.hid hT
  have HALL := Lib.hid hall
  have hfl : all.length ≤ 257 := by
    rw [hall]
    have h1 := below_len (right_sound hT) 0 (.inl rfl)
    have h2 := (right_sound hT).len
    omega
  obtain ⟨Aa, ca, rfl, -, -, har⟩ := SlI.open_ HVA.out
  have hWT := HG4.out.size
  have HST := Lib.hid (show BuildAt WT t all (.slice Aa all.length ca) w4.heap.size 0 (.slice none 0 0) (.slice none 0 0) (w4.alloc (.cells #[.slice none 0 0, .slice none 0 0] 35)) from
    ⟨heap_allocE rfl, by rw [List.take_zero, part_nil]; exact ⟨SlI.nil _, [], Rd.nil _ _, rfl, fun i h => absurd h (Nat.not_lt_zero _)⟩, SlI.mono HVA.out ((Grew.refl _).alloc _), HG4.out.alloc _, hWT⟩)
  clear hT hall HVA hWT HRB har
  go_wp2_with fail
  generalize w4.heap.size = BX at HST ⊢
  generalize w4.alloc (.cells #[.slice none 0 0, .slice none 0 0] 35) = WL at HST ⊢
  clear HG4
  go_loopg [30] all.length (fun gg s30 wr => ∃ (k : Nat) (ru bu : Value), k ≤ all.length ∧ all.length - k ≤ gg ∧ s30 = .int .i64 k ∧ Aside (BuildAt WT t all (.slice Aa all.length ca) BX k ru bu wr))
  case atStart => exact ⟨0, _, _, by omega, by omega, rfl, (show Aside _ from HST.out)⟩
  case round =>
    clear HST
    obtain ⟨k, ru, bu, hkl, hgk, rfl, HC⟩ := hrel
    obtain ⟨s0, s1⟩ := tr_slices HC.out.tree
    obtain ⟨Au, nu, cu, rfl⟩ := s0
    obtain ⟨Bu, mu, du, rfl⟩ := s1
    have x0 : wr.cell? ⟨BX, 0, none⟩ = some (.slice Au nu cu) := by have := HC.out.box; simp [World.cell?, this]
    have x1 : wr.cell? ⟨BX, 1, none⟩ = some (.slice Bu mu du) := by have := HC.out.box; simp [World.cell?, this]
    obtain ⟨r0, b0⟩ := HB.out wr HC.out.grew
    by_cases hlt : k < all.length
    rotate_left
    · have hltz : ¬ (k : Int) < (all.length : Int) := by omega
      obtain rfl : k = all.length := by omega
      have ht := HC.out.tree
      rw [List.take_length, HALL.out, part_all (right_sound HRT.out)] at ht
      have HT := Lib.hid ht
      have HGW := Lib.hid (GT.out.trans HC.out.grew)
      clear ht HC
      go_wp2_with fail
      refine (same19 t _ _ _ _ _ HT.out (HTT.out _ HGW.out)).mono ?_
      rintro e w9 ⟨rfl, g9⟩
      have HG9 := Lib.hid (HGW.out.trans g9)
      clear g9
      dsimp only
      go_wp2
      go_ret
      exact ⟨rfl, HG9.out⟩
    have hltz : (k : Int) < (all.length : Int) := by omega
    have h0z : (0 : Int) ≤ (k : Int) := by omega
    obtain ⟨A', c', e, -, -, har⟩ := SlI.open_ HC.out.list
    injection e with e1 _ e2
    subst e1 e2
    obtain ⟨b, off, rfl, -, hcell⟩ := har (by omega)
    have c0 := hcell wr (Grew.refl _) k hlt
    have hsplit : belowT t 0 = all.take k ++ all[k] :: all.drop (k + 1) := by rw [← HALL.out, List.getElem_cons_drop, List.take_append_drop]
    obtain ⟨y, hf, hid, hap⟩ := build_step HRT.out hsplit
    replace hap := hap (1 + (k : Int)) (by omega) (by omega)
    rw [← List.take_succ_eq_append_getElem hlt] at hap
    have hRk : RightT (partT t (all.take k)) := (applyR_right (by rw [hap])).1
    have kq := fun W rx bx (hW : Grew w W) (ht : TrOk W rx bx (partT t (all.take k))) => KP.out (partT t (all.take k)) (opOf (1 + (k : Int)) y) W rx bx hW ht hRk (by show (Lit.int .i64 1).wf = true; decide)
    rw [hap] at kq
    unfold opOf Opn.agg at kq
    dsimp only at kq
    have KQ := Lib.hid kq
    have hfd := KF.out wr all[k] (GT.out.trans HC.out.grew)
    rw [hf] at hfd
    unfold TFindEnd at hfd
    dsimp only [Option.getD_some, Option.isSome_some] at hfd
    have HSTEP := Lib.hid (fun w8 r8 b8 g ht => HC.out.step (w8 := w8) (r8 := r8) (b8 := b8) g ht)
    have HBX := Lib.hid HC.out.box
    have HTR := Lib.hid HC.out.tree
    have HGW := Lib.hid (GT.out.trans HC.out.grew)
    clear kq hap hRk hsplit hf hcell har HC
    generalize all[k] = x at c0 hid hfd
    obtain ⟨yi, yp, yl, yt, ym, yk⟩ := y
    dsimp only at hid hfd KQ
    subst hid
    have HFD := Lib.hid hfd
    clear hfd
    go_wp2_with fail
    refine HFD.out.mono ?_
    rintro e w5 ⟨rfl, g5⟩
    have G5 := Lib.hid g5
    replace x0 := keep_cell ((G5.out).alloc (.cells #[.int .i64 yi, .int .i64 yp, .int .i64 yl, .string yt, .string ym] 51)) x0
    replace x1 := keep_cell ((G5.out).alloc (.cells #[.int .i64 yi, .int .i64 yp, .int .i64 yl, .string yt, .string ym] 51)) x1
    clear g5 c0 r0 b0 HFD
    dsimp only
    go_wp2_with fail
    refine (KQ.out _ _ _ (HGW.out.trans (G5.out.alloc _)) (HTR.out.mono (G5.out.alloc _))).mono ?_
    rintro e w7 ⟨r7, b7, rfl, ht7, g7⟩
    obtain ⟨A7, k7, rfl, -⟩ := SlI.open_ ht7.1
    obtain ⟨B7, l7, rfl, -⟩ := SlBr.open_ ht7.2
    have HT7 := Lib.hid ht7
    have G7 := Lib.hid ((G5.out.alloc _).trans g7)
    generalize (partT t (all.take (k + 1))).roots.length = n7 at HT7 ⊢
    generalize (partT t (all.take (k + 1))).brs.length = m7 at HT7 ⊢
    have y0 := keep_cell (g7.alloc (.cells #[.slice A7 n7 k7, .slice B7 m7 l7] 35)) x0
    have y1 := keep_cell (g7.alloc (.cells #[.slice A7 n7 k7, .slice B7 m7 l7] 35)) x1
    have z0 := frz_of (heap_grew (G7.out.alloc (.cells #[.slice A7 n7 k7, .slice B7 m7 l7] 35)) HBX.out) 0
    have z1 := frz_of (heap_grew (G7.out.alloc (.cells #[.slice A7 n7 k7, .slice B7 m7 l7] 35)) HBX.out) 1
    clear ht7 g7 x0 x1
    dsimp only
    go_wp2_with fail
    go_roundg (all.length - (k + 1))
    case measure => omega
    case rel => exact ⟨k + 1, _, _, by omega, by omega, by go_num, (show Aside _ from HSTEP.out _ _ _ (G7.out.alloc _) (HT7.out.mono ((Grew.refl _).alloc _)))⟩
end Go.Proofs.YtafncfomiolmgaaGreatDoor
