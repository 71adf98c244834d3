/- The law InheritConnected, walked, its awake given. The condition: the library's own variables hold what they must. -/
import Derived.Test.YtmbpeniaefpljaaGreatDoorQ37
import Derived.Test.YtmbpeniaefpljaaGreatDoorQ42
import Derived.Test.YtmbpeniaefpljaaGreatDoorQ4
import Derived.Test.YtmbpeniaefpljaaGreatDoorQ41
namespace Go.Proofs.YtmbpeniaefpljaaGreatDoor
open Go.RowKit

theorem conn_two (t : Tr) (ls : List ByteArray) (vs : List Val) (u n : Int) (lang : ByteArray) : ((reachR t ls vs u n lang).2 = askI t ls vs u n lang ∧ askI t ls vs u n lang ≠ 0 ∧ (reachR t ls vs u n lang).1 = []) ∨ ((reachR t ls vs u n lang).2 = 0 ∧ askI t ls vs u n lang = 0 ∧ (reachR t ls vs u n lang).1 = reachF t vs u n lang) := by
  unfold reachR
  by_cases h : askI t ls vs u n lang = 0
  · rw [if_pos h]
    exact .inr ⟨rfl, h, rfl⟩
  · rw [if_neg h]
    exact .inl ⟨rfl, h, rfl⟩
theorem get_is {vs : List Val} {u n : Int} {lang : ByteArray} {s : Bool} (h : (getF vs u n lang).isSome = s) (v : Value) (w : World) (hv : SlV w v vs) :
    Calls Tryz.prog 28 #[v, .int .i64 u, .int .i64 n, .string lang] w fun e w' => (∃ x, e = .returned (.tuple #[.string x, .bool s])) ∧ Grew w w' := by
  rw [← h]
  exact (get_any vs u n lang v w hv).mono fun e w' h => ⟨⟨_, h.1⟩, h.2⟩
/-- Behind `r, e := Reach(..)`: the list lies in a box. -/
def LisBox (W0 : World) (l : List Int) (n : Int) (s1 s2 : Value) (wx : World) : Prop := ∃ U A c, s1 = .pointer (some ⟨U, 0, none⟩) ∧ s2 = .int .i64 n ∧ Aside (wx.cell? ⟨U, 0, none⟩ = some (.slice A l.length c)) ∧ Aside (SlI wx (.slice A l.length c) l) ∧ Aside (Grew W0 wx)
theorem box_meet3 {W0 W : World} {P B : Nat} {A : Option Addr} {c : Nat} {l : List Int} {n : Int} {x : Value} (ho : W.ownsRow B 3 1 (.slice A l.length c) l.length (l.flatMap oneI)) (h0 : W.cell? ⟨P, 0, none⟩ = some x) (hB : P < B) (hP : W0.heap.size ≤ P) (g : Grew W0 W) : LisBox W0 l n (.pointer (some ⟨P, 0, none⟩)) (.int .i64 n) (W.setCell ⟨P, 0, none⟩ (.slice A l.length c)) :=
  ⟨P, A, c, rfl, rfl, (show Aside _ from World.cell?_setCell_same' _ _ _ (by rw [h0]; rfl)), (show Aside _ from Rd.of_own (ownsRow_setCell_below ho hB _)), (show Aside _ from g.setCell hP _)⟩
theorem box_meet2 {W0 W : World} {A : Option Addr} {c : Nat} {l : List Int} {n : Int} (h : SlI W (.slice A l.length c) l) (g : Grew W0 W) : LisBox W0 l n (.pointer (some ⟨W.heap.size, 0, none⟩)) (.int .i64 n) (W.alloc (.cells #[.slice A l.length c] 22)) :=
  ⟨_, A, c, rfl, rfl, (show Aside _ from (one_cell (heap_newI W (.cells #[.slice A l.length c] 22))).1), (show Aside _ from h.mono ((Grew.refl W).alloc _)), (show Aside _ from g.alloc _)⟩
theorem conn1 (l : List Int) (x : Int) (U : Nat) (A : Option Addr) (c : Nat) (W : World) (h0 : W.cell? ⟨U, 0, none⟩ = some (.slice A l.length c)) (h : SlI W (.slice A l.length c) l) :
    Calls Tryz.prog 33 (#[.int .i64 x] ++ #[.pointer (some ⟨U, 0, none⟩)]) W fun e w' => e = .returned (.bool (l.any fun y => x == y)) ∧ Grew W w' := by
  have K := Lib.hid (containsI l x _ W h)
  clear h
  go_enter Tryz.func33, Tryz.ntmps33
  go_wp2_with fail
  refine K.out.mono ?_
  rintro e w1 ⟨rfl, rfl⟩
  dsimp only
  go_wp2
  go_ret
  exact ⟨rfl, Grew.refl _⟩
theorem enters_conn1 : ∀ args w, (callFunc 33 args).run Tryz.prog w = .ok (.enter 33 args) w := enters_of Tryz.func33 (by kernel_rfl) rfl
set_option maxHeartbeats 16000000 in
set_option maxRecDepth 100000 in
theorem connected_of (t : Tr) (ls : List ByteArray) (vs : List Val) (u ot n : Int) (lang : ByteArray) (rv bv lv vv : Value) (w : World) (hE : Env w) (hr : SlI w rv t.roots) (hb : SlBr w bv t.brs) (hl : SlS w lv ls) (hvv : SlV w vv vs) (hA : ∀ W, Grew w W → Calls Tryz.prog 10 #[] W fun e w' => e = .returned (.bool true) ∧ Grew W w') :
    Calls Tryz.prog 6 #[.agg #[rv, bv], lv, vv, .int .i64 u, .int .i64 ot, .int .i64 n, .string lang] w fun e w' => e = .returned (.bool true) ∧ Grew w w' := by
  have KA := Lib.hid hA
  have KW := Lib.hid (fun ms mv W (hW : Grew w W) (hm : SlS W mv ms) => fewLawI t ls vs ms rv bv lv vv mv W (hr.mono hW) (hb.mono hW) (hl.mono hW) (hvv.mono hW) hm)
  have KCS := Lib.hid (fun W (hW : Grew w W) (hf : FewI t ls vs) => clS ls lv W (hl.mono hW) hf.2.1)
  have KCV := Lib.hid (fun W (hW : Grew w W) (hf : FewI t ls vs) => clV vs vv W (hvv.mono hW) hf.2.2)
  have kP := fun lv' vv' W (hW : Grew w W) (hl' : SlS W lv' ls) (hv' : SlV W vv' vs) (hf : FewI t ls vs) => iReachX t ls vs u n lang rv bv lv' vv' W (hE.mono hW) (hr.mono hW) (hb.mono hW) hf.1.br hf.1.rs hl' hv'
  have kQ := fun lv' vv' W (hW : Grew w W) (hl' : SlS W lv' ls) (hv' : SlV W vv' vs) (hf : FewI t ls vs) => iReachX t ls vs ot n lang rv bv lv' vv' W (hE.mono hW) (hr.mono hW) (hb.mono hW) hf.1.br hf.1.rs hl' hv'
  have KFI := Lib.hid (fun x W (hW : Grew w W) => tFind t.brs x rv bv W (hb.mono hW))
  have HTWO := Lib.hid (conn_two t ls vs u n lang)
  have HTWO2 := Lib.hid (conn_two t ls vs ot n lang)
  unfold RetNL at kP kQ
  generalize reachR t ls vs u n lang = R at kP HTWO
  generalize reachR t ls vs ot n lang = Q at kQ HTWO2
  obtain ⟨ra, re⟩ := R
  obtain ⟨qa, qe⟩ := Q
  dsimp only at kP kQ HTWO HTWO2
  have KP := Lib.hid kP
  have KQ := Lib.hid kQ
  clear kP kQ
  obtain ⟨Ar, cr, rfl, -⟩ := hr.open_
  obtain ⟨Ab, cb, rfl, -⟩ := hb.open_
  clear hE hr hb hl hvv hA
  go_enter Tryz.func6, Tryz.ntmps6
  go_wp2_with fail
  refine (KA.out _ ((Grew.refl w).alloc _)).mono ?_
  rintro e wa ⟨rfl, ga⟩
  have t0 := new_cell ga 0 _ rfl
  have t1 := new_cell ga 1 _ rfl
  have HTB := Lib.hid (show ∀ W, Grew wa W → W.cell? ⟨w.heap.size, 0, none⟩ = some (.slice Ar t.roots.length cr) ∧ W.cell? ⟨w.heap.size, 1, none⟩ = some (.slice Ab t.brs.length cb) from fun W g => ⟨keep_cell g t0, keep_cell g t1⟩)
  have HG := Lib.hid (((Grew.refl w).alloc _).trans ga)
  clear ga
  dsimp only
  go_wp2_with fail
  refine (KW.out _ _ _ (HG.out.alloc _) (lit1S _ _)).mono ?_
  rintro e wb ⟨q, rfl, hq, gb⟩
  have HQ := Lib.hid hq
  have GB := Lib.hid (Grew.trans ((Grew.refl wa).alloc _) gb)
  clear hq gb
  replace HG := Lib.hid (HG.out.trans GB.out)
  replace HTB := Lib.hid (fun W gg => HTB.out W (Grew.trans GB.out gg))
  clear t0 t1
  obtain ⟨t0, t1⟩ := HTB.out _ (Grew.refl _)
  dsimp only
  cases q
  · clear HQ
    go_wp2_with fail
    refine (KA.out _ HG.out).mono ?_
    rintro e wz ⟨rfl, g3⟩
    have HG3 := Lib.hid (HG.out.trans g3)
    clear g3
    dsimp only
    go_wp2
    go_ret
    exact ⟨rfl, HG3.out⟩
  have HF := Lib.hid (HQ.out (by first | rfl | trivial))
  clear HQ
  go_wp2_with fail
  go_cut [15, 16] from 37 to 48 (fun s1 s2 wx => LisBox wb ra re s1 s2 wx)
  case first =>
    go_region_held3 (fun W => W.cell? ⟨w.heap.size, 0, none⟩ = some (.slice Ar t.roots.length cr) ∧ W.cell? ⟨w.heap.size, 1, none⟩ = some (.slice Ab t.brs.length cb) ∧ Grew wb W) (refine heldI wb _ t0 t1 (by repeat (with_reducible first | exact Grew.refl _ | exact GQ3.out | exact GQ2.out | exact GQ1.out | refine Grew.drew ?_ | refine Grew.alloc ?_ _ | refine Grew.setCell ?_ (by first | exact Nat.le_refl _ | exact GQ3.out.size | exact GQ2.out.size | exact GQ1.out.size | simp) _))) (first | (go_at_call 13; refine (KCS.out _ (HG.out.trans (by repeat (with_reducible first | exact Grew.refl _ | refine Grew.drew ?_ | refine Grew.alloc ?_ _))) HF.out).mono ?_; rintro e w5 ⟨A5, c5, rfl, h5, gq⟩; have GQ1 := Lib.hid (show Grew wb w5 from Grew.trans (by repeat (with_reducible first | exact Grew.refl _ | refine Grew.drew ?_ | refine Grew.alloc ?_ _)) gq); have HLS := Lib.hid h5; (try (have hdr : Grew (wb.alloc (.cells [.slice none 0 0].toArray 22)).drew w5 := (by with_reducible exact gq); have BX := Lib.hid (heap_keepI (Grew.trans (Grew.refl _).drew hdr) (heap_newI wb (.cells [.slice none 0 0].toArray 22))))); (try (have hdr : Grew (wb.alloc (.cells [.slice none 0 0].toArray 22)) w5 := (by with_reducible exact gq); have BX := Lib.hid (heap_keepI hdr (heap_newI wb (.cells [.slice none 0 0].toArray 22))))); clear h5 gq) | (go_at_call 14; refine (KCV.out _ (HG.out.trans (GQ1.out.trans (by repeat (with_reducible first | exact Grew.refl _ | refine Grew.drew ?_ | refine Grew.alloc ?_ _)))) HF.out).mono ?_; rintro e w6 ⟨A6, c6, rfl, h6, gq⟩; have GX := Lib.hid (show Grew w5 w6 from Grew.trans (by repeat (with_reducible first | exact Grew.refl _ | refine Grew.drew ?_ | refine Grew.alloc ?_ _)) gq); have GQ2 := Lib.hid (GQ1.out.trans GX.out); have HLS2 := Lib.hid (HLS.out.mono GX.out); have HLV := Lib.hid h6; (try have BX2 := Lib.hid (heap_keepI GX.out BX.out)); (try (have hdr : Grew (w5.alloc (.cells [.slice none 0 0].toArray 22)).drew w6 := (by with_reducible exact gq); have BX2 := Lib.hid (heap_keepI (Grew.trans (Grew.refl _).drew hdr) (heap_newI w5 (.cells [.slice none 0 0].toArray 22))))); (try (have hdr : Grew (w5.alloc (.cells [.slice none 0 0].toArray 22)) w6 := (by with_reducible exact gq); have BX2 := Lib.hid (heap_keepI hdr (heap_newI w5 (.cells [.slice none 0 0].toArray 22))))); clear h6 gq GX) | (go_at_call 20; refine (KP.out _ _ _ (HG.out.trans (GQ2.out.trans (by repeat (with_reducible first | exact Grew.refl _ | refine Grew.drew ?_ | refine Grew.alloc ?_ _)))) (HLS2.out.mono (by repeat (with_reducible first | exact Grew.refl _ | refine Grew.drew ?_ | refine Grew.alloc ?_ _))) (HLV.out.mono (by repeat (with_reducible first | exact Grew.refl _ | refine Grew.drew ?_ | refine Grew.alloc ?_ _))) HF.out).mono ?_; rintro e w7 ⟨vq, rfl, ho, gq⟩; have GX := Lib.hid (show Grew w6 w7 from Grew.trans (by repeat (with_reducible first | exact Grew.refl _ | refine Grew.drew ?_ | refine Grew.alloc ?_ _)) gq); have GQ3 := Lib.hid (GQ2.out.trans GX.out); obtain ⟨Aq, cq, rfl⟩ := own_slice ho; have HOW := Lib.hid ho; have HO := Lib.hid (show SlI w7 (.slice Aq ra.length cq) ra from Rd.of_own ho); (try have hPL := (Array.getElem?_eq_some_iff.1 BX2.out).1); (try have BX3 := Lib.hid (heap_keepI GX.out BX2.out)); (try (have hdr : Grew (w6.alloc (.cells [.slice none 0 0].toArray 22)).drew w7 := (by with_reducible exact gq); have BX3 := Lib.hid (heap_keepI (Grew.trans (Grew.refl _).drew hdr) (heap_newI w6 (.cells [.slice none 0 0].toArray 22))))); (try (have hdr : Grew (w6.alloc (.cells [.slice none 0 0].toArray 22)) w7 := (by with_reducible exact gq); have BX3 := Lib.hid (heap_keepI hdr (heap_newI w6 (.cells [.slice none 0 0].toArray 22))))); (try (have qq := one_cell BX3.out; obtain ⟨q0, z0⟩ := qq)); clear ho gq GX))
    all_goals go_wp2_with fail
    all_goals go_meet
    all_goals with_reducible first | exact box_meet2 HO.out GQ3.out | refine box_meet3 HOW.out q0 ?_ (Nat.le_refl _) GQ3.out | refine box_meet3 HOW.out q0 ?_ GQ1.out.size GQ3.out | refine box_meet3 HOW.out q0 ?_ GQ2.out.size GQ3.out
    all_goals first | exact hPL | (simp; done) | (have := GQ2.out.size; simp; omega)
  case rest =>
    obtain ⟨U, Ad, cd, rfl, rfl, u0, HLX, GC⟩ := hcut
    replace HG := Lib.hid (HG.out.trans GC.out)
    replace HTB := Lib.hid (fun W gg => HTB.out W (Grew.trans GC.out gg))
    clear t0 t1
    obtain ⟨t0, t1⟩ := HTB.out _ (Grew.refl _)
    have Hd := Lib.hid HLX.out
    have u0 := u0.out
    have HU := Lib.hid (show ∀ W, Grew wc W → W.cell? ⟨U, 0, none⟩ = some (.slice Ad ra.length cd) from fun W g => keep_cell g u0)
    clear HLX GC
    rcases HTWO.out with ⟨hre, hne, hno⟩ | ⟨h0, hask, hra⟩
    · subst hno
      have hz : re ≠ 0 := by rw [hre]; exact hne
      have hb : (re != 0) = true := by simpa using hz
      clear HTWO HTWO2 KP KQ KFI t0 t1 hre hne hz
      go_wp2
      go_ret
      exact ⟨rfl, HG.out⟩
    subst h0
    have HOWN := Lib.hid (co_own hask)
    have hgs := co_none hask
    have HUP := Lib.hid (fun x (hx : x ∈ reachF t vs u n lang) => co_up hask hx)
    have HONE := Lib.hid (co_one hask)
    have HAPA := Lib.hid (fun h : ot ≠ u => co_apart hask h)
    rw [← hra] at hgs
    have hown := HOWN.out
    rw [← hra] at hown
    have hup := HUP.out
    rw [← hra] at hup
    have hone := HONE.out
    rw [← hra] at hone
    have hapa := HAPA.out
    rw [← hra] at hapa
    generalize hgq : (getF vs u n lang).isSome = s at hown hgs
    have KG := Lib.hid (fun v W (hv : SlV W v vs) => get_is hgq v W hv)
    have HAP := Lib.hid (show ot ≠ u → qe = 0 → (qa.any fun y => ra.any fun z => y == z) = false from fun h hq => by
      rcases HTWO2.out with ⟨k1, k2, -⟩ | ⟨-, -, k3⟩
      · exact absurd (k1.symm.trans hq) k2
      · rw [k3]; exact hapa h)
    have HUP2 := Lib.hid hup
    have HONE2 := Lib.hid hone
    have HOWN2 := Lib.hid hown
    have HGS := Lib.hid hgs
    clear HOWN HUP HONE HAPA hown hup hone hapa hgs hgq hra hask HTWO HTWO2 KP
    go_wp2_with fail
    refine (KCV.out _ HG.out HF.out).mono ?_
    rintro e w3 ⟨A3, c3, rfl, h3, g3⟩
    have HLV := Lib.hid h3
    have GQ3 := Lib.hid g3
    clear h3 g3
    replace HG := Lib.hid (HG.out.trans GQ3.out)
    replace HTB := Lib.hid (fun W gg => HTB.out W (Grew.trans GQ3.out gg))
    replace Hd := Lib.hid (Hd.out.mono GQ3.out)
    replace HU := Lib.hid (fun W gg => HU.out W (Grew.trans GQ3.out gg))
    clear t0 t1
    obtain ⟨t0, t1⟩ := HTB.out _ (Grew.refl _)
    clear u0
    dsimp only
    go_wp2_with fail
    refine (KG.out _ _ HLV.out).mono ?_
    rintro e w4 ⟨⟨sx, rfl⟩, g4⟩
    have GQ4 := Lib.hid g4
    clear g4
    replace HG := Lib.hid (HG.out.trans GQ4.out)
    replace HTB := Lib.hid (fun W gg => HTB.out W (Grew.trans GQ4.out gg))
    replace Hd := Lib.hid (Hd.out.mono GQ4.out)
    replace HU := Lib.hid (fun W gg => HU.out W (Grew.trans GQ4.out gg))
    clear t0 t1
    obtain ⟨t0, t1⟩ := HTB.out _ (Grew.refl _)
    have u0 := HU.out _ (Grew.refl _)
    clear GQ3 HLV KG
    dsimp only
    go_wp2_with fail
    refine (containsI ra u _ _ Hd.out).mono ?_
    rintro e w5 ⟨rfl, rfl⟩
    rw [HOWN2.out]
    dsimp only
    have hss : (s != s) = false := by cases s <;> rfl
    have hgz : s = false → ¬ (0 : Int) < (ra.length : Int) := fun h => by rw [HGS.out h]; decide
    have HGZ := Lib.hid hgz
    clear hgz
    cases s with
    | true =>
      obtain ⟨Al5, cl5, hvd, hlc, hc, hcr⟩ := Hd.out.open_
      injection hvd with v1 v2 v3
      subst v1 v3
      unfold maxLen at hc
      have HR := Lib.hid hcr
      clear hcr
      go_wp2_with fail
      go_loopg [79] ra.length (fun gg s79 wr => ∃ k : Nat, k ≤ ra.length ∧ ra.length - k ≤ gg ∧ s79 = .int .i64 (k : Int) ∧ Aside (Grew w4 wr))
      case atStart => exact ⟨0, by omega, by omega, rfl, (show Aside _ from Grew.refl _)⟩
      case round =>
        obtain ⟨k, hk, hgk, rfl, GW⟩ := hrel
        clear t0 t1 u0
        obtain ⟨t0, t1⟩ := HTB.out _ GW.out
        have u0 := HU.out _ GW.out
        have HGW := Lib.hid (HG.out.trans GW.out)
        by_cases hlt : k < ra.length
        · have hltz : (k : Int) < (ra.length : Int) := by omega
          have h0z : (0 : Int) ≤ (k : Int) := by omega
          obtain ⟨bb, off, rfl, hbb, hcell⟩ := HR.out (by omega)
          have c0 := hcell wr GW.out k hlt
          obtain ⟨hu1, hu2⟩ := HUP2.out ra[k] (List.getElem_mem hlt)
          have kf := fun W hW => KFI.out ra[k] W hW
          unfold TFindEnd at kf
          clear hcell
          generalize ra[k] = y at c0 kf hu1 hu2
          generalize (brFind t.brs y).getD br0 = f at kf hu2
          rw [hu1] at kf
          obtain ⟨bi, bp, bl, bt, bm, bk⟩ := f
          dsimp only at kf hu2
          have KFY := Lib.hid kf
          have HU2 := Lib.hid hu2
          clear kf hu1 hu2
          go_wp2_with fail
          refine (KFY.out _ HGW.out).mono ?_
          rintro e w6 ⟨rfl, g6⟩
          have gz := g6.alloc (.cells #[.int .i64 bi, .int .i64 bp, .int .i64 bl, .string bt, .string bm] 51)
          have G6 := Lib.hid (GW.out.trans gz)
          obtain ⟨f0, f1, f2, f3, f4⟩ := five_cells (heap_newI w6 (.cells #[.int .i64 bi, .int .i64 bp, .int .i64 bl, .string bt, .string bm] 51))
          clear u0
          have u0 := HU.out _ G6.out
          have Hd6 := Lib.hid (Hd.out.mono G6.out)
          clear g6 gz t0 t1 c0
          dsimp only
          cases hyu : (y != u) with
          | false =>
            go_wp2
            go_roundg (ra.length - (k + 1))
            case measure => omega
            case rel => exact ⟨k + 1, by omega, by omega, by go_num, (show Aside _ from G6.out)⟩
          | true =>
            have hin := HU2.out (by simpa using hyu)
            go_wp2_with (go_at_call 29; refine (containsI ra bp _ _ Hd6.out).mono ?_; rintro e w7 ⟨rfl, rfl⟩; rw [hin])
            go_roundg (ra.length - (k + 1))
            case measure => omega
            case rel => exact ⟨k + 1, by omega, by omega, by go_num, (show Aside _ from G6.out)⟩
        · have hltz : ¬ (k : Int) < (ra.length : Int) := by omega
          obtain rfl : k = ra.length := by omega
          clear t0 t1 u0
          obtain ⟨t0, t1⟩ := HTB.out _ (Grew.refl _)
          replace HG := Lib.hid (HG.out.trans GW.out)
          replace HTB := Lib.hid (fun W gg => HTB.out W (Grew.trans GW.out gg))
          replace Hd := Lib.hid (Hd.out.mono GW.out)
          replace HU := Lib.hid (fun W gg => HU.out W (Grew.trans GW.out gg))
          clear t0 t1
          obtain ⟨t0, t1⟩ := HTB.out _ (Grew.refl _)
          have u0 := HU.out _ (Grew.refl _)
          have KIN := Lib.hid (fun W => inherited_any n W)
          have hone := HONE2.out
          generalize (kindOf n).inh = inh at KIN hone
          have HON := Lib.hid hone
          clear hone HONE2 HUP2 KFI HR GW HGW
          go_wp2_with fail
          refine (KIN.out _).mono ?_
          rintro e w8 ⟨rfl, g8⟩
          have GQ8 := Lib.hid g8
          clear g8 u0
          replace HG := Lib.hid (HG.out.trans GQ8.out)
          replace HTB := Lib.hid (fun W gg => HTB.out W (Grew.trans GQ8.out gg))
          replace Hd := Lib.hid (Hd.out.mono GQ8.out)
          replace HU := Lib.hid (fun W gg => HU.out W (Grew.trans GQ8.out gg))
          clear t0 t1
          obtain ⟨t0, t1⟩ := HTB.out _ (Grew.refl _)
          have u0 := HU.out _ (Grew.refl _)
          dsimp only
          have hln : inh = false → ¬ (1 : Int) < (ra.length : Int) := fun h => by have := HON.out h; omega
          cases inh with
          | true =>
            go_wp2_with fail
            go_cut [23, 24] from 112 to 123 (fun s1 s2 wx => LisCut w8 qa qe s1 s2 wx)
            case first =>
              go_region_held3 (fun W => W.cell? ⟨w.heap.size, 0, none⟩ = some (.slice Ar t.roots.length cr) ∧ W.cell? ⟨w.heap.size, 1, none⟩ = some (.slice Ab t.brs.length cb) ∧ Grew w8 W) (refine heldI w8 _ t0 t1 (by repeat (with_reducible first | exact Grew.refl _ | exact GQ3.out | exact GQ2.out | exact GQ1.out | refine Grew.drew ?_ | refine Grew.alloc ?_ _ | refine Grew.setCell ?_ (by first | exact Nat.le_refl _ | exact GQ3.out.size | exact GQ2.out.size | exact GQ1.out.size | simp) _))) (first | (go_at_call 13; refine (KCS.out _ (HG.out.trans (by repeat (with_reducible first | exact Grew.refl _ | refine Grew.drew ?_ | refine Grew.alloc ?_ _))) HF.out).mono ?_; rintro e w5 ⟨A5, c5, rfl, h5, gq⟩; have GQ1 := Lib.hid (show Grew w8 w5 from Grew.trans (by repeat (with_reducible first | exact Grew.refl _ | refine Grew.drew ?_ | refine Grew.alloc ?_ _)) gq); have HLS := Lib.hid h5; clear h5 gq) | (go_at_call 14; refine (KCV.out _ (HG.out.trans (GQ1.out.trans (by repeat (with_reducible first | exact Grew.refl _ | refine Grew.drew ?_ | refine Grew.alloc ?_ _)))) HF.out).mono ?_; rintro e w6 ⟨A6, c6, rfl, h6, gq⟩; have GX := Lib.hid (show Grew w5 w6 from Grew.trans (by repeat (with_reducible first | exact Grew.refl _ | refine Grew.drew ?_ | refine Grew.alloc ?_ _)) gq); have GQ2 := Lib.hid (GQ1.out.trans GX.out); have HLS2 := Lib.hid (HLS.out.mono GX.out); have HLV := Lib.hid h6; clear h6 gq GX) | (go_at_call 20; refine (KQ.out _ _ _ (HG.out.trans (GQ2.out.trans (by repeat (with_reducible first | exact Grew.refl _ | refine Grew.drew ?_ | refine Grew.alloc ?_ _)))) (HLS2.out.mono (by repeat (with_reducible first | exact Grew.refl _ | refine Grew.drew ?_ | refine Grew.alloc ?_ _))) (HLV.out.mono (by repeat (with_reducible first | exact Grew.refl _ | refine Grew.drew ?_ | refine Grew.alloc ?_ _))) HF.out).mono ?_; rintro e w7 ⟨vq, rfl, ho, gq⟩; have GX := Lib.hid (show Grew w6 w7 from Grew.trans (by repeat (with_reducible first | exact Grew.refl _ | refine Grew.drew ?_ | refine Grew.alloc ?_ _)) gq); have GQ3 := Lib.hid (GQ2.out.trans GX.out); obtain ⟨Aq, cq, rfl⟩ := own_slice ho; have HO := Lib.hid (Rd.of_own ho); clear ho gq GX))
              all_goals go_wp2_with fail
              all_goals go_meet
              all_goals exact lisC HO.out GQ3.out
            case rest =>
              obtain ⟨⟨Aq, cq, rfl⟩, rfl, HLX, GC⟩ := hcut
              replace HG := Lib.hid (HG.out.trans GC.out)
              replace HTB := Lib.hid (fun W gg => HTB.out W (Grew.trans GC.out gg))
              replace Hd := Lib.hid (Hd.out.mono GC.out)
              replace HU := Lib.hid (fun W gg => HU.out W (Grew.trans GC.out gg))
              clear t0 t1
              obtain ⟨t0, t1⟩ := HTB.out _ (Grew.refl _)
              have Hq := Lib.hid HLX.out
              clear HLX GC
              clear u0 t0 t1
              have u0 := HU.out _ (Grew.refl _)
              by_cases hz : qe = 0
              case neg =>
                have hb : (qe != 0) = true := by simpa using hz
                go_wp2
                go_ret
                exact ⟨rfl, HG.out⟩
              subst hz
              cases hou : (ot == u) with
              | true =>
                go_wp2
                go_ret
                exact ⟨rfl, HG.out⟩
              | false =>
                have hany := HAP.out (by simpa using hou) rfl
                have KCF := Lib.hid (containsFuncI qa (fun y => ra.any fun z => y == z) _ #[.pointer (some ⟨U, 0, none⟩)] enters_conn1 _ _ Hq.out (fun W x hW _ => conn1 ra x U Ad cd W (HU.out W hW) (Hd.out.mono hW)))
                rw [hany] at KCF
                clear hany
                go_wp2_with fail
                refine KCF.out.mono ?_
                rintro e w9 ⟨rfl, g9⟩
                have HGE := Lib.hid (HG.out.trans g9)
                clear g9 KCF
                dsimp only
                go_wp2
                go_ret
                exact ⟨rfl, HGE.out⟩
          | false =>
            have hlz := hln rfl
            go_wp2_with fail
            go_cut [23, 24] from 112 to 123 (fun s1 s2 wx => LisCut w8 qa qe s1 s2 wx)
            case first =>
              go_region_held3 (fun W => W.cell? ⟨w.heap.size, 0, none⟩ = some (.slice Ar t.roots.length cr) ∧ W.cell? ⟨w.heap.size, 1, none⟩ = some (.slice Ab t.brs.length cb) ∧ Grew w8 W) (refine heldI w8 _ t0 t1 (by repeat (with_reducible first | exact Grew.refl _ | exact GQ3.out | exact GQ2.out | exact GQ1.out | refine Grew.drew ?_ | refine Grew.alloc ?_ _ | refine Grew.setCell ?_ (by first | exact Nat.le_refl _ | exact GQ3.out.size | exact GQ2.out.size | exact GQ1.out.size | simp) _))) (first | (go_at_call 13; refine (KCS.out _ (HG.out.trans (by repeat (with_reducible first | exact Grew.refl _ | refine Grew.drew ?_ | refine Grew.alloc ?_ _))) HF.out).mono ?_; rintro e w5 ⟨A5, c5, rfl, h5, gq⟩; have GQ1 := Lib.hid (show Grew w8 w5 from Grew.trans (by repeat (with_reducible first | exact Grew.refl _ | refine Grew.drew ?_ | refine Grew.alloc ?_ _)) gq); have HLS := Lib.hid h5; clear h5 gq) | (go_at_call 14; refine (KCV.out _ (HG.out.trans (GQ1.out.trans (by repeat (with_reducible first | exact Grew.refl _ | refine Grew.drew ?_ | refine Grew.alloc ?_ _)))) HF.out).mono ?_; rintro e w6 ⟨A6, c6, rfl, h6, gq⟩; have GX := Lib.hid (show Grew w5 w6 from Grew.trans (by repeat (with_reducible first | exact Grew.refl _ | refine Grew.drew ?_ | refine Grew.alloc ?_ _)) gq); have GQ2 := Lib.hid (GQ1.out.trans GX.out); have HLS2 := Lib.hid (HLS.out.mono GX.out); have HLV := Lib.hid h6; clear h6 gq GX) | (go_at_call 20; refine (KQ.out _ _ _ (HG.out.trans (GQ2.out.trans (by repeat (with_reducible first | exact Grew.refl _ | refine Grew.drew ?_ | refine Grew.alloc ?_ _)))) (HLS2.out.mono (by repeat (with_reducible first | exact Grew.refl _ | refine Grew.drew ?_ | refine Grew.alloc ?_ _))) (HLV.out.mono (by repeat (with_reducible first | exact Grew.refl _ | refine Grew.drew ?_ | refine Grew.alloc ?_ _))) HF.out).mono ?_; rintro e w7 ⟨vq, rfl, ho, gq⟩; have GX := Lib.hid (show Grew w6 w7 from Grew.trans (by repeat (with_reducible first | exact Grew.refl _ | refine Grew.drew ?_ | refine Grew.alloc ?_ _)) gq); have GQ3 := Lib.hid (GQ2.out.trans GX.out); obtain ⟨Aq, cq, rfl⟩ := own_slice ho; have HO := Lib.hid (Rd.of_own ho); clear ho gq GX))
              all_goals go_wp2_with fail
              all_goals go_meet
              all_goals exact lisC HO.out GQ3.out
            case rest =>
              obtain ⟨⟨Aq, cq, rfl⟩, rfl, HLX, GC⟩ := hcut
              replace HG := Lib.hid (HG.out.trans GC.out)
              replace HTB := Lib.hid (fun W gg => HTB.out W (Grew.trans GC.out gg))
              replace Hd := Lib.hid (Hd.out.mono GC.out)
              replace HU := Lib.hid (fun W gg => HU.out W (Grew.trans GC.out gg))
              clear t0 t1
              obtain ⟨t0, t1⟩ := HTB.out _ (Grew.refl _)
              have Hq := Lib.hid HLX.out
              clear HLX GC
              clear u0 t0 t1
              have u0 := HU.out _ (Grew.refl _)
              by_cases hz : qe = 0
              case neg =>
                have hb : (qe != 0) = true := by simpa using hz
                go_wp2
                go_ret
                exact ⟨rfl, HG.out⟩
              subst hz
              cases hou : (ot == u) with
              | true =>
                go_wp2
                go_ret
                exact ⟨rfl, HG.out⟩
              | false =>
                have hany := HAP.out (by simpa using hou) rfl
                have KCF := Lib.hid (containsFuncI qa (fun y => ra.any fun z => y == z) _ #[.pointer (some ⟨U, 0, none⟩)] enters_conn1 _ _ Hq.out (fun W x hW _ => conn1 ra x U Ad cd W (HU.out W hW) (Hd.out.mono hW)))
                rw [hany] at KCF
                clear hany
                go_wp2_with fail
                refine KCF.out.mono ?_
                rintro e w9 ⟨rfl, g9⟩
                have HGE := Lib.hid (HG.out.trans g9)
                clear g9 KCF
                dsimp only
                go_wp2
                go_ret
                exact ⟨rfl, HGE.out⟩
    | false =>
      have hlz0 := HGZ.out rfl
      obtain ⟨Al5, cl5, hvd, hlc, hc, hcr⟩ := Hd.out.open_
      injection hvd with v1 v2 v3
      subst v1 v3
      unfold maxLen at hc
      have HR := Lib.hid hcr
      clear hcr
      go_wp2_with fail
      go_loopg [79] ra.length (fun gg s79 wr => ∃ k : Nat, k ≤ ra.length ∧ ra.length - k ≤ gg ∧ s79 = .int .i64 (k : Int) ∧ Aside (Grew w4 wr))
      case atStart => exact ⟨0, by omega, by omega, rfl, (show Aside _ from Grew.refl _)⟩
      case round =>
        obtain ⟨k, hk, hgk, rfl, GW⟩ := hrel
        clear t0 t1 u0
        obtain ⟨t0, t1⟩ := HTB.out _ GW.out
        have u0 := HU.out _ GW.out
        have HGW := Lib.hid (HG.out.trans GW.out)
        by_cases hlt : k < ra.length
        · have hltz : (k : Int) < (ra.length : Int) := by omega
          exact absurd hltz (by omega)
        · have hltz : ¬ (k : Int) < (ra.length : Int) := by omega
          obtain rfl : k = ra.length := by omega
          clear t0 t1 u0
          obtain ⟨t0, t1⟩ := HTB.out _ (Grew.refl _)
          replace HG := Lib.hid (HG.out.trans GW.out)
          replace HTB := Lib.hid (fun W gg => HTB.out W (Grew.trans GW.out gg))
          replace Hd := Lib.hid (Hd.out.mono GW.out)
          replace HU := Lib.hid (fun W gg => HU.out W (Grew.trans GW.out gg))
          clear t0 t1
          obtain ⟨t0, t1⟩ := HTB.out _ (Grew.refl _)
          have u0 := HU.out _ (Grew.refl _)
          have KIN := Lib.hid (fun W => inherited_any n W)
          have hone := HONE2.out
          generalize (kindOf n).inh = inh at KIN hone
          have HON := Lib.hid hone
          clear hone HONE2 HUP2 KFI HR GW HGW
          go_wp2_with fail
          refine (KIN.out _).mono ?_
          rintro e w8 ⟨rfl, g8⟩
          have GQ8 := Lib.hid g8
          clear g8 u0
          replace HG := Lib.hid (HG.out.trans GQ8.out)
          replace HTB := Lib.hid (fun W gg => HTB.out W (Grew.trans GQ8.out gg))
          replace Hd := Lib.hid (Hd.out.mono GQ8.out)
          replace HU := Lib.hid (fun W gg => HU.out W (Grew.trans GQ8.out gg))
          clear t0 t1
          obtain ⟨t0, t1⟩ := HTB.out _ (Grew.refl _)
          have u0 := HU.out _ (Grew.refl _)
          dsimp only
          have hln : inh = false → ¬ (1 : Int) < (ra.length : Int) := fun h => by have := HON.out h; omega
          cases inh with
          | true =>
            go_wp2_with fail
            go_cut [23, 24] from 112 to 123 (fun s1 s2 wx => LisCut w8 qa qe s1 s2 wx)
            case first =>
              go_region_held3 (fun W => W.cell? ⟨w.heap.size, 0, none⟩ = some (.slice Ar t.roots.length cr) ∧ W.cell? ⟨w.heap.size, 1, none⟩ = some (.slice Ab t.brs.length cb) ∧ Grew w8 W) (refine heldI w8 _ t0 t1 (by repeat (with_reducible first | exact Grew.refl _ | exact GQ3.out | exact GQ2.out | exact GQ1.out | refine Grew.drew ?_ | refine Grew.alloc ?_ _ | refine Grew.setCell ?_ (by first | exact Nat.le_refl _ | exact GQ3.out.size | exact GQ2.out.size | exact GQ1.out.size | simp) _))) (first | (go_at_call 13; refine (KCS.out _ (HG.out.trans (by repeat (with_reducible first | exact Grew.refl _ | refine Grew.drew ?_ | refine Grew.alloc ?_ _))) HF.out).mono ?_; rintro e w5 ⟨A5, c5, rfl, h5, gq⟩; have GQ1 := Lib.hid (show Grew w8 w5 from Grew.trans (by repeat (with_reducible first | exact Grew.refl _ | refine Grew.drew ?_ | refine Grew.alloc ?_ _)) gq); have HLS := Lib.hid h5; clear h5 gq) | (go_at_call 14; refine (KCV.out _ (HG.out.trans (GQ1.out.trans (by repeat (with_reducible first | exact Grew.refl _ | refine Grew.drew ?_ | refine Grew.alloc ?_ _)))) HF.out).mono ?_; rintro e w6 ⟨A6, c6, rfl, h6, gq⟩; have GX := Lib.hid (show Grew w5 w6 from Grew.trans (by repeat (with_reducible first | exact Grew.refl _ | refine Grew.drew ?_ | refine Grew.alloc ?_ _)) gq); have GQ2 := Lib.hid (GQ1.out.trans GX.out); have HLS2 := Lib.hid (HLS.out.mono GX.out); have HLV := Lib.hid h6; clear h6 gq GX) | (go_at_call 20; refine (KQ.out _ _ _ (HG.out.trans (GQ2.out.trans (by repeat (with_reducible first | exact Grew.refl _ | refine Grew.drew ?_ | refine Grew.alloc ?_ _)))) (HLS2.out.mono (by repeat (with_reducible first | exact Grew.refl _ | refine Grew.drew ?_ | refine Grew.alloc ?_ _))) (HLV.out.mono (by repeat (with_reducible first | exact Grew.refl _ | refine Grew.drew ?_ | refine Grew.alloc ?_ _))) HF.out).mono ?_; rintro e w7 ⟨vq, rfl, ho, gq⟩; have GX := Lib.hid (show Grew w6 w7 from Grew.trans (by repeat (with_reducible first | exact Grew.refl _ | refine Grew.drew ?_ | refine Grew.alloc ?_ _)) gq); have GQ3 := Lib.hid (GQ2.out.trans GX.out); obtain ⟨Aq, cq, rfl⟩ := own_slice ho; have HO := Lib.hid (Rd.of_own ho); clear ho gq GX))
              all_goals go_wp2_with fail
              all_goals go_meet
              all_goals exact lisC HO.out GQ3.out
            case rest =>
              obtain ⟨⟨Aq, cq, rfl⟩, rfl, HLX, GC⟩ := hcut
              replace HG := Lib.hid (HG.out.trans GC.out)
              replace HTB := Lib.hid (fun W gg => HTB.out W (Grew.trans GC.out gg))
              replace Hd := Lib.hid (Hd.out.mono GC.out)
              replace HU := Lib.hid (fun W gg => HU.out W (Grew.trans GC.out gg))
              clear t0 t1
              obtain ⟨t0, t1⟩ := HTB.out _ (Grew.refl _)
              have Hq := Lib.hid HLX.out
              clear HLX GC
              clear u0 t0 t1
              have u0 := HU.out _ (Grew.refl _)
              by_cases hz : qe = 0
              case neg =>
                have hb : (qe != 0) = true := by simpa using hz
                go_wp2
                go_ret
                exact ⟨rfl, HG.out⟩
              subst hz
              cases hou : (ot == u) with
              | true =>
                go_wp2
                go_ret
                exact ⟨rfl, HG.out⟩
              | false =>
                have hany := HAP.out (by simpa using hou) rfl
                have KCF := Lib.hid (containsFuncI qa (fun y => ra.any fun z => y == z) _ #[.pointer (some ⟨U, 0, none⟩)] enters_conn1 _ _ Hq.out (fun W x hW _ => conn1 ra x U Ad cd W (HU.out W hW) (Hd.out.mono hW)))
                rw [hany] at KCF
                clear hany
                go_wp2_with fail
                refine KCF.out.mono ?_
                rintro e w9 ⟨rfl, g9⟩
                have HGE := Lib.hid (HG.out.trans g9)
                clear g9 KCF
                dsimp only
                go_wp2
                go_ret
                exact ⟨rfl, HGE.out⟩
          | false =>
            have hlz := hln rfl
            go_wp2_with fail
            go_cut [23, 24] from 112 to 123 (fun s1 s2 wx => LisCut w8 qa qe s1 s2 wx)
            case first =>
              go_region_held3 (fun W => W.cell? ⟨w.heap.size, 0, none⟩ = some (.slice Ar t.roots.length cr) ∧ W.cell? ⟨w.heap.size, 1, none⟩ = some (.slice Ab t.brs.length cb) ∧ Grew w8 W) (refine heldI w8 _ t0 t1 (by repeat (with_reducible first | exact Grew.refl _ | exact GQ3.out | exact GQ2.out | exact GQ1.out | refine Grew.drew ?_ | refine Grew.alloc ?_ _ | refine Grew.setCell ?_ (by first | exact Nat.le_refl _ | exact GQ3.out.size | exact GQ2.out.size | exact GQ1.out.size | simp) _))) (first | (go_at_call 13; refine (KCS.out _ (HG.out.trans (by repeat (with_reducible first | exact Grew.refl _ | refine Grew.drew ?_ | refine Grew.alloc ?_ _))) HF.out).mono ?_; rintro e w5 ⟨A5, c5, rfl, h5, gq⟩; have GQ1 := Lib.hid (show Grew w8 w5 from Grew.trans (by repeat (with_reducible first | exact Grew.refl _ | refine Grew.drew ?_ | refine Grew.alloc ?_ _)) gq); have HLS := Lib.hid h5; clear h5 gq) | (go_at_call 14; refine (KCV.out _ (HG.out.trans (GQ1.out.trans (by repeat (with_reducible first | exact Grew.refl _ | refine Grew.drew ?_ | refine Grew.alloc ?_ _)))) HF.out).mono ?_; rintro e w6 ⟨A6, c6, rfl, h6, gq⟩; have GX := Lib.hid (show Grew w5 w6 from Grew.trans (by repeat (with_reducible first | exact Grew.refl _ | refine Grew.drew ?_ | refine Grew.alloc ?_ _)) gq); have GQ2 := Lib.hid (GQ1.out.trans GX.out); have HLS2 := Lib.hid (HLS.out.mono GX.out); have HLV := Lib.hid h6; clear h6 gq GX) | (go_at_call 20; refine (KQ.out _ _ _ (HG.out.trans (GQ2.out.trans (by repeat (with_reducible first | exact Grew.refl _ | refine Grew.drew ?_ | refine Grew.alloc ?_ _)))) (HLS2.out.mono (by repeat (with_reducible first | exact Grew.refl _ | refine Grew.drew ?_ | refine Grew.alloc ?_ _))) (HLV.out.mono (by repeat (with_reducible first | exact Grew.refl _ | refine Grew.drew ?_ | refine Grew.alloc ?_ _))) HF.out).mono ?_; rintro e w7 ⟨vq, rfl, ho, gq⟩; have GX := Lib.hid (show Grew w6 w7 from Grew.trans (by repeat (with_reducible first | exact Grew.refl _ | refine Grew.drew ?_ | refine Grew.alloc ?_ _)) gq); have GQ3 := Lib.hid (GQ2.out.trans GX.out); obtain ⟨Aq, cq, rfl⟩ := own_slice ho; have HO := Lib.hid (Rd.of_own ho); clear ho gq GX))
              all_goals go_wp2_with fail
              all_goals go_meet
              all_goals exact lisC HO.out GQ3.out
            case rest =>
              obtain ⟨⟨Aq, cq, rfl⟩, rfl, HLX, GC⟩ := hcut
              replace HG := Lib.hid (HG.out.trans GC.out)
              replace HTB := Lib.hid (fun W gg => HTB.out W (Grew.trans GC.out gg))
              replace Hd := Lib.hid (Hd.out.mono GC.out)
              replace HU := Lib.hid (fun W gg => HU.out W (Grew.trans GC.out gg))
              clear t0 t1
              obtain ⟨t0, t1⟩ := HTB.out _ (Grew.refl _)
              have Hq := Lib.hid HLX.out
              clear HLX GC
              clear u0 t0 t1
              have u0 := HU.out _ (Grew.refl _)
              by_cases hz : qe = 0
              case neg =>
                have hb : (qe != 0) = true := by simpa using hz
                go_wp2
                go_ret
                exact ⟨rfl, HG.out⟩
              subst hz
              cases hou : (ot == u) with
              | true =>
                go_wp2
                go_ret
                exact ⟨rfl, HG.out⟩
              | false =>
                have hany := HAP.out (by simpa using hou) rfl
                have KCF := Lib.hid (containsFuncI qa (fun y => ra.any fun z => y == z) _ #[.pointer (some ⟨U, 0, none⟩)] enters_conn1 _ _ Hq.out (fun W x hW _ => conn1 ra x U Ad cd W (HU.out W hW) (Hd.out.mono hW)))
                rw [hany] at KCF
                clear hany
                go_wp2_with fail
                refine KCF.out.mono ?_
                rintro e w9 ⟨rfl, g9⟩
                have HGE := Lib.hid (HG.out.trans g9)
                clear g9 KCF
                dsimp only
                go_wp2
                go_ret
                exact ⟨rfl, HGE.out⟩
end Go.Proofs.YtmbpeniaefpljaaGreatDoor
